/- WHAT IS PROVED: for every input the law ArborCheapest returns true, and leaves what it was given as it was. No condition. -/
import Derived.Test.YtkgcmgbndapjcaaRows
import Derived.Test.YtkgcmgbndapjcaaZArborCheapest14
import Derived.WalkKit
import Derived.ProofKit
namespace Go.Proofs.Ytkgcmgbndapjcaa.arborCheapest
open Go Go.Am Go.RowKit Go.ChangeShapes Go.WideShapes
set_option linter.unusedVariables false

set_option maxRecDepth 100000 in
theorem walks (H : Type) (enc : TypeId × Value → H) : Walks H enc Try.prog 9 [47] :=
  walks1 (fun w0 => arg_struct4 Try.underlying47 rfl rfl rfl rfl (by kernel_rfl) (by kernel_rfl) (by kernel_rfl) (by kernel_rfl) (by kernel_rfl) (opens_int Try.underlying3) (opens_pairs Try.underlying22 Try.underlying44 Try.underlying3 (by kernel_rfl) (by kernel_rfl) (by kernel_rfl)) (opens_ints Try.underlying27 Try.underlying3 (by decide +kernel) (by kernel_rfl)) (opens_int Try.underlying3)) (fun _ x h => arborCheapest_ret (Nat.le_trans h.2.1.1 (by decide)) (Nat.le_trans h.2.2.1.1 (by decide)))

set_option maxRecDepth 100000 in
theorem signs : ∃ r, behindMainWord (wordsSigns Try.prog.initOrder.toList) = "cut".toList :: r := signs_of rfl (by kernel_rfl)
theorem later : Try.prog.laysLater = false := by kernel_rfl
theorem refl : Try.prog.bearsReflect = false := by kernel_rfl
theorem doors : Try.prog.doorRows = [] := by kernel_rfl
set_option maxRecDepth 100000 in
theorem lifted (os : Os) (started : os.Started) (H : Type) (enc : TypeId × Value → H) :
    ReturnsInHanded {} Try.checked os 9 .any (Rows.arborCheapestSpec.pre6 enc Try.prog Try.f9 Rows.arborCheapestRow.domain false) (Rows.arborCheapestSpec.post enc Try.prog Try.f9 false true false false) :=
  law_lifted (C := Try.checked) (ts := [47]) (rt := 4) (by kernel_rfl) started (by kernel_rfl) Try.func9 (by rw [Try.params9]) (by rfl) Try.underlying4 rfl
    (fun ds h => match ds, h with | [d0], _ => rfl) (by kernel_rfl) (by kernel_rfl)
    (ChangeSpec.witness6 (enc := enc) (C := Try.checked) false ⟨#[], #[.agg #[.int .i64 0, .slice none 0 0, .slice none 0 0, .int .i64 0]], []⟩ 8 (by kernel_rfl) (by kernel_rfl) (by kernel_rfl) (by kernel_rfl)) (walks H enc)
theorem closed : joinedFacts Try.prog 9 Try.f9 Rows.arborCheapestSpec Rows.arborCheapestRow = true := by
  unfold joinedFacts
  rw [mayEnter_cut signs later refl doors, make_cut signs, liftsFinal_cut signs]
  kernel_rfl
theorem over : Rows.arborCheapestRow.holds Try.pinned (OpenSpec.ofChange Rows.arborCheapestSpec) :=
  OpenClaim.holds_of_wide 9 Try.f9 rfl rfl rfl rfl rfl rfl rfl ⟨rfl, rfl, rfl, rfl, rfl⟩ rfl rfl rfl rfl rfl (by kernel_rfl) Try.func9 closed
    (of_decide_eq_true (by kernel_rfl)) (by unfold Func.isWrapper; first | (rw [if_pos (by decide +kernel)]; kernel_rfl) | (rw [if_neg (by decide +kernel)]; exact ⟨rfl, rfl⟩))
    (fun os started H enc _ => lifted os started H enc)
theorem proved : Rows.ArborCheapestSaid := over
#print axioms proved
end Go.Proofs.Ytkgcmgbndapjcaa.arborCheapest
namespace Go.Proofs.Ytkgcmgbndapjcaa
theorem arborCheapest_holds : Rows.ArborCheapestSaid := arborCheapest.proved
end Go.Proofs.Ytkgcmgbndapjcaa
