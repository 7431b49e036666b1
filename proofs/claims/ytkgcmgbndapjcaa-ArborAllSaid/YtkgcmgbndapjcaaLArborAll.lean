/- WHAT IS PROVED: for every input the law ArborAll returns true, and leaves what it was given as it was. No condition. -/
import Derived.Test.YtkgcmgbndapjcaaRows
import Derived.Test.YtkgcmgbndapjcaaZArborAll13
import Derived.WalkKit
import Derived.ProofKit
namespace Go.Proofs.Ytkgcmgbndapjcaa.arborAll
open Go Go.Am Go.RowKit Go.ChangeShapes Go.WideShapes
set_option linter.unusedVariables false

set_option maxRecDepth 100000 in
theorem walks (H : Type) (enc : TypeId × Value → H) : Walks H enc Try.prog 12 [47, 3] :=
  walks2 (fun w0 => arg_struct4 Try.underlying47 rfl rfl rfl rfl (by kernel_rfl) (by kernel_rfl) (by kernel_rfl) (by kernel_rfl) (by kernel_rfl) (opens_int Try.underlying3) (opens_pairs Try.underlying22 Try.underlying44 Try.underlying3 (by kernel_rfl) (by kernel_rfl) (by kernel_rfl)) (opens_ints Try.underlying27 Try.underlying3 (by decide +kernel) (by kernel_rfl)) (opens_int Try.underlying3)) (fun w0 => arg_int Try.underlying3) (fun _ x v h _ => arborAll_ret (Nat.le_trans h.2.1.1 (by decide)) (Nat.le_trans h.2.2.1.1 (by decide)))

set_option maxRecDepth 100000 in
theorem signs : ∃ r, behindMainWord (wordsSigns Try.prog.initOrder.toList) = "cut".toList :: r := signs_of rfl (by kernel_rfl)
theorem later : Try.prog.laysLater = false := by kernel_rfl
theorem refl : Try.prog.bearsReflect = false := by kernel_rfl
theorem doors : Try.prog.doorRows = [] := by kernel_rfl
set_option maxRecDepth 100000 in
theorem lifted (os : Os) (started : os.Started) (H : Type) (enc : TypeId × Value → H) :
    ReturnsInHanded {} Try.checked os 12 .any (Rows.arborAllSpec.pre6 enc Try.prog Try.f12 Rows.arborAllRow.domain false) (Rows.arborAllSpec.post enc Try.prog Try.f12 false true false false) :=
  law_lifted (C := Try.checked) (ts := [47, 3]) (rt := 4) (by kernel_rfl) started (by kernel_rfl) Try.func12 (by rw [Try.params12]) (by rfl) Try.underlying4 rfl
    (fun ds h => match ds, h with | [d0, d1], _ => rfl) (by kernel_rfl) (by kernel_rfl)
    (ChangeSpec.witness6 (enc := enc) (C := Try.checked) false ⟨#[], #[.agg #[.int .i64 0, .slice none 0 0, .slice none 0 0, .int .i64 0], .int .i64 0], []⟩ 8 (by kernel_rfl) (by kernel_rfl) (by kernel_rfl) (by kernel_rfl)) (walks H enc)
theorem closed : joinedFacts Try.prog 12 Try.f12 Rows.arborAllSpec Rows.arborAllRow = true := by
  unfold joinedFacts
  rw [mayEnter_cut signs later refl doors, make_cut signs, liftsFinal_cut signs]
  kernel_rfl
theorem over : Rows.arborAllRow.holds Try.pinned (OpenSpec.ofChange Rows.arborAllSpec) :=
  OpenClaim.holds_of_wide 12 Try.f12 rfl rfl rfl rfl rfl rfl rfl ⟨rfl, rfl, rfl, rfl, rfl⟩ rfl rfl rfl rfl rfl (by kernel_rfl) Try.func12 closed
    (of_decide_eq_true (by kernel_rfl)) (by unfold Func.isWrapper; first | (rw [if_pos (by decide +kernel)]; kernel_rfl) | (rw [if_neg (by decide +kernel)]; exact ⟨rfl, rfl⟩))
    (fun os started H enc _ => lifted os started H enc)
theorem proved : Rows.ArborAllSaid := over
#print axioms proved
end Go.Proofs.Ytkgcmgbndapjcaa.arborAll
namespace Go.Proofs.Ytkgcmgbndapjcaa
theorem arborAll_holds : Rows.ArborAllSaid := arborAll.proved
end Go.Proofs.Ytkgcmgbndapjcaa
