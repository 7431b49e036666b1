/- WHAT IS PROVED: for every input the law ArcsParallel returns true, and leaves what it was given as it was. No condition. -/
import Derived.Test.YtkgcmgbndapjcaaRows
import Derived.Test.YtkgcmgbndapjcaaZArcsParallel11
import Derived.WalkKit
import Derived.ProofKit
namespace Go.Proofs.Ytkgcmgbndapjcaa.arcsParallel
open Go Go.Am Go.RowKit Go.ChangeShapes Go.WideShapes
set_option linter.unusedVariables false

set_option maxRecDepth 100000 in
theorem walks (H : Type) (enc : TypeId × Value → H) : Walks H enc Try.prog 7 [27, 3] :=
  walks2 (fun w0 => arg_ints Try.underlying27 Try.underlying3 (by decide +kernel) (by kernel_rfl)) (fun w0 => arg_int Try.underlying3) (fun _ up k h _ => parallel_ret h.1)

set_option maxRecDepth 100000 in
theorem signs : ∃ r, behindMainWord (wordsSigns Try.prog.initOrder.toList) = "cut".toList :: r := signs_of rfl (by kernel_rfl)
theorem later : Try.prog.laysLater = false := by kernel_rfl
theorem refl : Try.prog.bearsReflect = false := by kernel_rfl
theorem doors : Try.prog.doorRows = [] := by kernel_rfl
set_option maxRecDepth 100000 in
theorem lifted (os : Os) (started : os.Started) (H : Type) (enc : TypeId × Value → H) :
    ReturnsInHanded {} Try.checked os 7 .any (Rows.arcsParallelSpec.pre6 enc Try.prog Try.f7 Rows.arcsParallelRow.domain false) (Rows.arcsParallelSpec.post enc Try.prog Try.f7 false true false false) :=
  law_lifted (C := Try.checked) (ts := [27, 3]) (rt := 4) (by kernel_rfl) started (by kernel_rfl) Try.func7 (by rw [Try.params7]) (by rfl) Try.underlying4 rfl
    (fun ds h => match ds, h with | [d0, d1], _ => rfl) (by kernel_rfl) (by kernel_rfl)
    (ChangeSpec.witness6 (enc := enc) (C := Try.checked) false ⟨#[], #[.slice none 0 0, .int .i64 0], []⟩ 8 (by kernel_rfl) (by kernel_rfl) (by kernel_rfl) (by kernel_rfl)) (walks H enc)
theorem closed : joinedFacts Try.prog 7 Try.f7 Rows.arcsParallelSpec Rows.arcsParallelRow = true := by
  unfold joinedFacts
  rw [mayEnter_cut signs later refl doors, make_cut signs, liftsFinal_cut signs]
  kernel_rfl
theorem over : Rows.arcsParallelRow.holds Try.pinned (OpenSpec.ofChange Rows.arcsParallelSpec) :=
  OpenClaim.holds_of_wide 7 Try.f7 rfl rfl rfl rfl rfl rfl rfl ⟨rfl, rfl, rfl, rfl, rfl⟩ rfl rfl rfl rfl rfl (by kernel_rfl) Try.func7 closed
    (of_decide_eq_true (by kernel_rfl)) (by unfold Func.isWrapper; first | (rw [if_pos (by decide +kernel)]; kernel_rfl) | (rw [if_neg (by decide +kernel)]; exact ⟨rfl, rfl⟩))
    (fun os started H enc _ => lifted os started H enc)
theorem proved : Rows.ArcsParallelSaid := over
#print axioms proved
end Go.Proofs.Ytkgcmgbndapjcaa.arcsParallel
namespace Go.Proofs.Ytkgcmgbndapjcaa
theorem arcsParallel_holds : Rows.ArcsParallelSaid := arcsParallel.proved
end Go.Proofs.Ytkgcmgbndapjcaa
