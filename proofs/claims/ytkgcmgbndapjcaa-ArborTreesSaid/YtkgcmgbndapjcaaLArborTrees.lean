/- WHAT IS PROVED: for every input the law ArborTrees returns true, and leaves what it was given as it was. No condition. -/
import Derived.Test.YtkgcmgbndapjcaaRows
import Derived.Test.YtkgcmgbndapjcaaZArborTrees12
import Derived.WalkKit
import Derived.ProofKit
namespace Go.Proofs.Ytkgcmgbndapjcaa.arborTrees
open Go Go.Am Go.RowKit Go.ChangeShapes Go.WideShapes
set_option linter.unusedVariables false

set_option maxRecDepth 100000 in
theorem walks (H : Type) (enc : TypeId × Value → H) : Walks H enc Try.prog 11 [27, 27] :=
  walks2 (fun w0 => arg_ints Try.underlying27 Try.underlying3 (by decide +kernel) (by kernel_rfl)) (fun w0 => arg_ints Try.underlying27 Try.underlying3 (by decide +kernel) (by kernel_rfl)) (fun _ up cost h1 h2 => trees_ret (Nat.le_trans h1.1 (by decide)) (Nat.le_trans h2.1 (by decide)))

set_option maxRecDepth 100000 in
theorem signs : ∃ r, behindMainWord (wordsSigns Try.prog.initOrder.toList) = "cut".toList :: r := signs_of rfl (by kernel_rfl)
theorem later : Try.prog.laysLater = false := by kernel_rfl
theorem refl : Try.prog.bearsReflect = false := by kernel_rfl
theorem doors : Try.prog.doorRows = [] := by kernel_rfl
set_option maxRecDepth 100000 in
theorem lifted (os : Os) (started : os.Started) (H : Type) (enc : TypeId × Value → H) :
    ReturnsInHanded {} Try.checked os 11 .any (Rows.arborTreesSpec.pre6 enc Try.prog Try.f11 Rows.arborTreesRow.domain false) (Rows.arborTreesSpec.post enc Try.prog Try.f11 false true false false) :=
  law_lifted (C := Try.checked) (ts := [27, 27]) (rt := 4) (by kernel_rfl) started (by kernel_rfl) Try.func11 (by rw [Try.params11]) (by rfl) Try.underlying4 rfl
    (fun ds h => match ds, h with | [d0, d1], _ => rfl) (by kernel_rfl) (by kernel_rfl)
    (ChangeSpec.witness6 (enc := enc) (C := Try.checked) false ⟨#[], #[.slice none 0 0, .slice none 0 0], []⟩ 8 (by kernel_rfl) (by kernel_rfl) (by kernel_rfl) (by kernel_rfl)) (walks H enc)
theorem closed : joinedFacts Try.prog 11 Try.f11 Rows.arborTreesSpec Rows.arborTreesRow = true := by
  unfold joinedFacts
  rw [mayEnter_cut signs later refl doors, make_cut signs, liftsFinal_cut signs]
  kernel_rfl
theorem over : Rows.arborTreesRow.holds Try.pinned (OpenSpec.ofChange Rows.arborTreesSpec) :=
  OpenClaim.holds_of_wide 11 Try.f11 rfl rfl rfl rfl rfl rfl rfl ⟨rfl, rfl, rfl, rfl, rfl⟩ rfl rfl rfl rfl rfl (by kernel_rfl) Try.func11 closed
    (of_decide_eq_true (by kernel_rfl)) (by unfold Func.isWrapper; first | (rw [if_pos (by decide +kernel)]; kernel_rfl) | (rw [if_neg (by decide +kernel)]; exact ⟨rfl, rfl⟩))
    (fun os started H enc _ => lifted os started H enc)
theorem proved : Rows.ArborTreesSaid := over
#print axioms proved
end Go.Proofs.Ytkgcmgbndapjcaa.arborTrees
namespace Go.Proofs.Ytkgcmgbndapjcaa
theorem arborTrees_holds : Rows.ArborTreesSaid := arborTrees.proved
end Go.Proofs.Ytkgcmgbndapjcaa
