/- WHAT IS PROVED: for every input the law ReachPath returns true, and leaves what it was given as it was. No condition. -/
import Derived.Test.YtbcgjjkchmgeoaaRows
import Derived.Test.YtbcgjjkchmgeoaaW24
import Derived.Test.YtbcgjjkchmgeoaaAm21
import Derived.WalkKit
import Derived.ProofKit
namespace Go.Proofs.Ytbcgjjkchmgeoaa.reachPath
open Go Go.Am Go.RowKit Go.ChangeShapes Go.WideShapes
set_option linter.unusedVariables false

set_option maxRecDepth 100000 in
theorem walks (H : Type) (enc : TypeId × Value → H) : Walks H enc Try.prog 11 [3] :=
  walks1 (fun w0 => arg_int Try.underlying3) (fun _ n _ => reachPath_ret)

set_option maxRecDepth 100000 in
theorem signs : ∃ r, behindMainWord (wordsSigns Try.prog.initOrder.toList) = "cut".toList :: r := signs_of rfl (by kernel_rfl)
theorem later : Try.prog.laysLater = false := by kernel_rfl
theorem refl : Try.prog.bearsReflect = false := by kernel_rfl
theorem doors : Try.prog.doorRows = [] := by kernel_rfl
set_option maxRecDepth 100000 in
theorem lifted (os : Os) (started : os.Started) (H : Type) (enc : TypeId × Value → H) :
    ReturnsInHanded {} Try.checked os 11 .any (Rows.reachPathSpec.pre6 enc Try.prog Try.f11 Rows.reachPathRow.domain false) (Rows.reachPathSpec.post enc Try.prog Try.f11 false true false false) :=
  law_lifted (C := Try.checked) (ts := [3]) (rt := 4) (by kernel_rfl) started (by kernel_rfl) Try.func11 (by rw [Try.params11]) (by rfl) Try.underlying4 rfl
    (fun ds h => match ds, h with | [d0], _ => rfl) (by kernel_rfl) (by kernel_rfl)
    (ChangeSpec.witness6 (enc := enc) (C := Try.checked) false ⟨#[], #[.int .i64 0], []⟩ 8 (by kernel_rfl) (by kernel_rfl) (by kernel_rfl) (by kernel_rfl)) (walks H enc)
theorem closed : joinedFacts Try.prog 11 Try.f11 Rows.reachPathSpec Rows.reachPathRow = true := by
  unfold joinedFacts
  rw [mayEnter_cut signs later refl doors, make_cut signs, liftsFinal_cut signs]
  kernel_rfl
theorem over : Rows.reachPathRow.holds Try.pinned (OpenSpec.ofChange Rows.reachPathSpec) :=
  OpenClaim.holds_of_wide 11 Try.f11 rfl rfl rfl rfl rfl rfl rfl ⟨rfl, rfl, rfl, rfl, rfl⟩ rfl rfl rfl rfl rfl (by kernel_rfl) Try.func11 closed
    (of_decide_eq_true (by kernel_rfl)) (by unfold Func.isWrapper; first | (rw [if_pos (by decide +kernel)]; kernel_rfl) | (rw [if_neg (by decide +kernel)]; exact ⟨rfl, rfl⟩))
    (fun os started H enc _ => lifted os started H enc)
theorem proved : Rows.ReachPathSaid := over
#print axioms proved
end Go.Proofs.Ytbcgjjkchmgeoaa.reachPath
namespace Go.Proofs.Ytbcgjjkchmgeoaa
theorem reachPath_holds : Rows.ReachPathSaid := reachPath.proved
end Go.Proofs.Ytbcgjjkchmgeoaa
