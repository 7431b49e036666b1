/- WHAT IS PROVED: for every input the law MatchMore returns true, and leaves what it was given as it was. No condition. -/
import Derived.Test.YtbcgjjkchmgeoaaRows
import Derived.Test.YtbcgjjkchmgeoaaW45
import Derived.Test.YtbcgjjkchmgeoaaAm21
import Derived.WalkKit
import Derived.ProofKit
namespace Go.Proofs.Ytbcgjjkchmgeoaa.matchMore
open Go Go.Am Go.RowKit Go.ChangeShapes Go.WideShapes
set_option linter.unusedVariables false

set_option maxRecDepth 100000 in
theorem walks (H : Type) (enc : TypeId × Value → H) : Walks H enc Try.prog 15 [3, 28, 24] :=
  walks3 (fun w0 => arg_int Try.underlying3) (fun w0 => arg_rows Try.underlying28 Try.underlying24 Try.underlying3 (by decide +kernel) (by kernel_rfl) (by decide +kernel) (by kernel_rfl)) (fun w0 => arg_ints Try.underlying24 Try.underlying3 (by decide +kernel) (by kernel_rfl)) (fun _ n adj l _ h h1 => matchMore_ret (Nat.le_trans h.1 (by decide)) (fun p hp => Nat.le_trans (h.2 p hp).1 (by decide)) (Nat.le_trans h1.1 (by decide)))

set_option maxRecDepth 100000 in
theorem signs : ∃ r, behindMainWord (wordsSigns Try.prog.initOrder.toList) = "cut".toList :: r := signs_of rfl (by kernel_rfl)
theorem later : Try.prog.laysLater = false := by kernel_rfl
theorem refl : Try.prog.bearsReflect = false := by kernel_rfl
theorem doors : Try.prog.doorRows = [] := by kernel_rfl
set_option maxRecDepth 100000 in
theorem lifted (os : Os) (started : os.Started) (H : Type) (enc : TypeId × Value → H) :
    ReturnsInHanded {} Try.checked os 15 .any (Rows.matchMoreSpec.pre6 enc Try.prog Try.f15 Rows.matchMoreRow.domain false) (Rows.matchMoreSpec.post enc Try.prog Try.f15 false true false false) :=
  law_lifted (C := Try.checked) (ts := [3, 28, 24]) (rt := 4) (by kernel_rfl) started (by kernel_rfl) Try.func15 (by rw [Try.params15]) (by rfl) Try.underlying4 rfl
    (fun ds h => match ds, h with | [d0, d1, d2], _ => rfl) (by kernel_rfl) (by kernel_rfl)
    (ChangeSpec.witness6 (enc := enc) (C := Try.checked) false ⟨#[], #[.int .i64 0, .slice none 0 0, .slice none 0 0], []⟩ 8 (by kernel_rfl) (by kernel_rfl) (by kernel_rfl) (by kernel_rfl)) (walks H enc)
theorem closed : joinedFacts Try.prog 15 Try.f15 Rows.matchMoreSpec Rows.matchMoreRow = true := by
  unfold joinedFacts
  rw [mayEnter_cut signs later refl doors, make_cut signs, liftsFinal_cut signs]
  kernel_rfl
theorem over : Rows.matchMoreRow.holds Try.pinned (OpenSpec.ofChange Rows.matchMoreSpec) :=
  OpenClaim.holds_of_wide 15 Try.f15 rfl rfl rfl rfl rfl rfl rfl ⟨rfl, rfl, rfl, rfl, rfl⟩ rfl rfl rfl rfl rfl (by kernel_rfl) Try.func15 closed
    (of_decide_eq_true (by kernel_rfl)) (by unfold Func.isWrapper; first | (rw [if_pos (by decide +kernel)]; kernel_rfl) | (rw [if_neg (by decide +kernel)]; exact ⟨rfl, rfl⟩))
    (fun os started H enc _ => lifted os started H enc)
theorem proved : Rows.MatchMoreSaid := over
#print axioms proved
end Go.Proofs.Ytbcgjjkchmgeoaa.matchMore
namespace Go.Proofs.Ytbcgjjkchmgeoaa
theorem matchMore_holds : Rows.MatchMoreSaid := matchMore.proved
end Go.Proofs.Ytbcgjjkchmgeoaa
