/- WHAT IS PROVED: for every input the law SetMembers returns true, and leaves what it was given as it was. No condition. -/
import Derived.Test.YtbcgjjkchmgeoaaRows
import Derived.Test.YtbcgjjkchmgeoaaW32
import Derived.Test.YtbcgjjkchmgeoaaAm21
import Derived.WalkKit
import Derived.ProofKit
namespace Go.Proofs.Ytbcgjjkchmgeoaa.setMembers
open Go Go.Am Go.RowKit Go.ChangeShapes Go.WideShapes
set_option linter.unusedVariables false

set_option maxRecDepth 100000 in
theorem walks (H : Type) (enc : TypeId × Value → H) : Walks H enc Try.prog 20 [24, 24, 3] :=
  walks3 (fun w0 => arg_ints Try.underlying24 Try.underlying3 (by decide +kernel) (by kernel_rfl)) (fun w0 => arg_ints Try.underlying24 Try.underlying3 (by decide +kernel) (by kernel_rfl)) (fun w0 => arg_int Try.underlying3) (fun _ a b x h1 h2 _ => setMembers_ret h1.1 h2.1)

set_option maxRecDepth 100000 in
theorem signs : ∃ r, behindMainWord (wordsSigns Try.prog.initOrder.toList) = "cut".toList :: r := signs_of rfl (by kernel_rfl)
theorem later : Try.prog.laysLater = false := by kernel_rfl
theorem refl : Try.prog.bearsReflect = false := by kernel_rfl
theorem doors : Try.prog.doorRows = [] := by kernel_rfl
set_option maxRecDepth 100000 in
theorem lifted (os : Os) (started : os.Started) (H : Type) (enc : TypeId × Value → H) :
    ReturnsInHanded {} Try.checked os 20 .any (Rows.setMembersSpec.pre6 enc Try.prog Try.f20 Rows.setMembersRow.domain false) (Rows.setMembersSpec.post enc Try.prog Try.f20 false true false false) :=
  law_lifted (C := Try.checked) (ts := [24, 24, 3]) (rt := 4) (by kernel_rfl) started (by kernel_rfl) Try.func20 (by rw [Try.params20]) (by rfl) Try.underlying4 rfl
    (fun ds h => match ds, h with | [d0, d1, d2], _ => rfl) (by kernel_rfl) (by kernel_rfl)
    (ChangeSpec.witness6 (enc := enc) (C := Try.checked) false ⟨#[], #[.slice none 0 0, .slice none 0 0, .int .i64 0], []⟩ 8 (by kernel_rfl) (by kernel_rfl) (by kernel_rfl) (by kernel_rfl)) (walks H enc)
theorem closed : joinedFacts Try.prog 20 Try.f20 Rows.setMembersSpec Rows.setMembersRow = true := by
  unfold joinedFacts
  rw [mayEnter_cut signs later refl doors, make_cut signs, liftsFinal_cut signs]
  kernel_rfl
theorem over : Rows.setMembersRow.holds Try.pinned (OpenSpec.ofChange Rows.setMembersSpec) :=
  OpenClaim.holds_of_wide 20 Try.f20 rfl rfl rfl rfl rfl rfl rfl ⟨rfl, rfl, rfl, rfl, rfl⟩ rfl rfl rfl rfl rfl (by kernel_rfl) Try.func20 closed
    (of_decide_eq_true (by kernel_rfl)) (by unfold Func.isWrapper; first | (rw [if_pos (by decide +kernel)]; kernel_rfl) | (rw [if_neg (by decide +kernel)]; exact ⟨rfl, rfl⟩))
    (fun os started H enc _ => lifted os started H enc)
theorem proved : Rows.SetMembersSaid := over
#print axioms proved
end Go.Proofs.Ytbcgjjkchmgeoaa.setMembers
namespace Go.Proofs.Ytbcgjjkchmgeoaa
theorem setMembers_holds : Rows.SetMembersSaid := setMembers.proved
end Go.Proofs.Ytbcgjjkchmgeoaa
