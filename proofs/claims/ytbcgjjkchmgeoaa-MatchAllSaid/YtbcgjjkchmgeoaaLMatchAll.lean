/- WHAT IS PROVED: for every input the law MatchAll returns true, and leaves what it was given as it was. No condition. -/
import Derived.Test.YtbcgjjkchmgeoaaRows
import Derived.Test.YtbcgjjkchmgeoaaW46
import Derived.Test.YtbcgjjkchmgeoaaAm21
import Derived.WalkKit
import Derived.ProofKit
namespace Go.Proofs.Ytbcgjjkchmgeoaa.matchAll
open Go Go.Am Go.RowKit Go.ChangeShapes Go.WideShapes
set_option linter.unusedVariables false

set_option maxRecDepth 100000 in
theorem walks (H : Type) (enc : TypeId × Value → H) : Walks H enc Try.prog 16 [3, 3] :=
  walks2 (fun w0 => arg_int Try.underlying3) (fun w0 => arg_int Try.underlying3) (fun _ a b _ _ => matchAll_ret)

set_option maxRecDepth 100000 in
theorem signs : ∃ r, behindMainWord (wordsSigns Try.prog.initOrder.toList) = "cut".toList :: r := signs_of rfl (by kernel_rfl)
theorem later : Try.prog.laysLater = false := by kernel_rfl
theorem refl : Try.prog.bearsReflect = false := by kernel_rfl
theorem doors : Try.prog.doorRows = [] := by kernel_rfl
set_option maxRecDepth 100000 in
theorem lifted (os : Os) (started : os.Started) (H : Type) (enc : TypeId × Value → H) :
    ReturnsInHanded {} Try.checked os 16 .any (Rows.matchAllSpec.pre6 enc Try.prog Try.f16 Rows.matchAllRow.domain false) (Rows.matchAllSpec.post enc Try.prog Try.f16 false true false false) :=
  law_lifted (C := Try.checked) (ts := [3, 3]) (rt := 4) (by kernel_rfl) started (by kernel_rfl) Try.func16 (by rw [Try.params16]) (by rfl) Try.underlying4 rfl
    (fun ds h => match ds, h with | [d0, d1], _ => rfl) (by kernel_rfl) (by kernel_rfl)
    (ChangeSpec.witness6 (enc := enc) (C := Try.checked) false ⟨#[], #[.int .i64 0, .int .i64 0], []⟩ 8 (by kernel_rfl) (by kernel_rfl) (by kernel_rfl) (by kernel_rfl)) (walks H enc)
theorem closed : joinedFacts Try.prog 16 Try.f16 Rows.matchAllSpec Rows.matchAllRow = true := by
  unfold joinedFacts
  rw [mayEnter_cut signs later refl doors, make_cut signs, liftsFinal_cut signs]
  kernel_rfl
theorem over : Rows.matchAllRow.holds Try.pinned (OpenSpec.ofChange Rows.matchAllSpec) :=
  OpenClaim.holds_of_wide 16 Try.f16 rfl rfl rfl rfl rfl rfl rfl ⟨rfl, rfl, rfl, rfl, rfl⟩ rfl rfl rfl rfl rfl (by kernel_rfl) Try.func16 closed
    (of_decide_eq_true (by kernel_rfl)) (by unfold Func.isWrapper; first | (rw [if_pos (by decide +kernel)]; kernel_rfl) | (rw [if_neg (by decide +kernel)]; exact ⟨rfl, rfl⟩))
    (fun os started H enc _ => lifted os started H enc)
theorem proved : Rows.MatchAllSaid := over
#print axioms proved
end Go.Proofs.Ytbcgjjkchmgeoaa.matchAll
namespace Go.Proofs.Ytbcgjjkchmgeoaa
theorem matchAll_holds : Rows.MatchAllSaid := matchAll.proved
end Go.Proofs.Ytbcgjjkchmgeoaa
