/- WHAT IS PROVED: for every input the law SetAlgebra returns true, and leaves what it was given as it was. No condition. -/
import Derived.Test.YtbcgjjkchmgeoaaRows
import Derived.Test.YtbcgjjkchmgeoaaW32
import Derived.Test.YtbcgjjkchmgeoaaAm21
import Derived.WalkKit
import Derived.ProofKit
namespace Go.Proofs.Ytbcgjjkchmgeoaa.setAlgebra
open Go Go.Am Go.RowKit Go.ChangeShapes Go.WideShapes
set_option linter.unusedVariables false

set_option maxRecDepth 100000 in
theorem walks (H : Type) (enc : TypeId × Value → H) : Walks H enc Try.prog 19 [24, 24, 24] :=
  walks3 (fun w0 => arg_ints Try.underlying24 Try.underlying3 (by decide +kernel) (by kernel_rfl)) (fun w0 => arg_ints Try.underlying24 Try.underlying3 (by decide +kernel) (by kernel_rfl)) (fun w0 => arg_ints Try.underlying24 Try.underlying3 (by decide +kernel) (by kernel_rfl)) (fun _ a b c h1 h2 h3 => setAlgebra_ret h1.1 h2.1 h3.1)

set_option maxRecDepth 100000 in
theorem signs : ∃ r, behindMainWord (wordsSigns Try.prog.initOrder.toList) = "cut".toList :: r := signs_of rfl (by kernel_rfl)
theorem later : Try.prog.laysLater = false := by kernel_rfl
theorem refl : Try.prog.bearsReflect = false := by kernel_rfl
theorem doors : Try.prog.doorRows = [] := by kernel_rfl
set_option maxRecDepth 100000 in
theorem lifted (os : Os) (started : os.Started) (H : Type) (enc : TypeId × Value → H) :
    ReturnsInHanded {} Try.checked os 19 .any (Rows.setAlgebraSpec.pre6 enc Try.prog Try.f19 Rows.setAlgebraRow.domain false) (Rows.setAlgebraSpec.post enc Try.prog Try.f19 false true false false) :=
  law_lifted (C := Try.checked) (ts := [24, 24, 24]) (rt := 4) (by kernel_rfl) started (by kernel_rfl) Try.func19 (by rw [Try.params19]) (by rfl) Try.underlying4 rfl
    (fun ds h => match ds, h with | [d0, d1, d2], _ => rfl) (by kernel_rfl) (by kernel_rfl)
    (ChangeSpec.witness6 (enc := enc) (C := Try.checked) false ⟨#[], #[.slice none 0 0, .slice none 0 0, .slice none 0 0], []⟩ 8 (by kernel_rfl) (by kernel_rfl) (by kernel_rfl) (by kernel_rfl)) (walks H enc)
theorem closed : joinedFacts Try.prog 19 Try.f19 Rows.setAlgebraSpec Rows.setAlgebraRow = true := by
  unfold joinedFacts
  rw [mayEnter_cut signs later refl doors, make_cut signs, liftsFinal_cut signs]
  kernel_rfl
theorem over : Rows.setAlgebraRow.holds Try.pinned (OpenSpec.ofChange Rows.setAlgebraSpec) :=
  OpenClaim.holds_of_wide 19 Try.f19 rfl rfl rfl rfl rfl rfl rfl ⟨rfl, rfl, rfl, rfl, rfl⟩ rfl rfl rfl rfl rfl (by kernel_rfl) Try.func19 closed
    (of_decide_eq_true (by kernel_rfl)) (by unfold Func.isWrapper; first | (rw [if_pos (by decide +kernel)]; kernel_rfl) | (rw [if_neg (by decide +kernel)]; exact ⟨rfl, rfl⟩))
    (fun os started H enc _ => lifted os started H enc)
theorem proved : Rows.SetAlgebraSaid := over
#print axioms proved
end Go.Proofs.Ytbcgjjkchmgeoaa.setAlgebra
namespace Go.Proofs.Ytbcgjjkchmgeoaa
theorem setAlgebra_holds : Rows.SetAlgebraSaid := setAlgebra.proved
end Go.Proofs.Ytbcgjjkchmgeoaa
