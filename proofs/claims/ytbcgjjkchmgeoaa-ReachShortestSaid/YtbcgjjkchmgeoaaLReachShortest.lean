/- WHAT IS PROVED: for every input the law ReachShortest returns true, and leaves what it was given as it was. No condition. -/
import Derived.Test.YtbcgjjkchmgeoaaRows
import Derived.Test.YtbcgjjkchmgeoaaW23
import Derived.Test.YtbcgjjkchmgeoaaAm21
import Derived.WalkKit
import Derived.ProofKit
namespace Go.Proofs.Ytbcgjjkchmgeoaa.reachShortest
open Go Go.Am Go.RowKit Go.ChangeShapes Go.WideShapes
set_option linter.unusedVariables false

set_option maxRecDepth 100000 in
theorem walks (H : Type) (enc : TypeId × Value → H) : Walks H enc Try.prog 10 [28, 24, 24] :=
  walks3 (fun w0 => arg_rows Try.underlying28 Try.underlying24 Try.underlying3 (by decide +kernel) (by kernel_rfl) (by decide +kernel) (by kernel_rfl)) (fun w0 => arg_ints Try.underlying24 Try.underlying3 (by decide +kernel) (by kernel_rfl)) (fun w0 => arg_ints Try.underlying24 Try.underlying3 (by decide +kernel) (by kernel_rfl)) (fun _ adj fr to h1 h2 h3 => reachShortest_ret h1.1 (fun p hp => (h1.2 p hp).1) h2.1 h3.1)

set_option maxRecDepth 100000 in
theorem signs : ∃ r, behindMainWord (wordsSigns Try.prog.initOrder.toList) = "cut".toList :: r := signs_of rfl (by kernel_rfl)
theorem later : Try.prog.laysLater = false := by kernel_rfl
theorem refl : Try.prog.bearsReflect = false := by kernel_rfl
theorem doors : Try.prog.doorRows = [] := by kernel_rfl
set_option maxRecDepth 100000 in
theorem lifted (os : Os) (started : os.Started) (H : Type) (enc : TypeId × Value → H) :
    ReturnsInHanded {} Try.checked os 10 .any (Rows.reachShortestSpec.pre6 enc Try.prog Try.f10 Rows.reachShortestRow.domain false) (Rows.reachShortestSpec.post enc Try.prog Try.f10 false true false false) :=
  law_lifted (C := Try.checked) (ts := [28, 24, 24]) (rt := 4) (by kernel_rfl) started (by kernel_rfl) Try.func10 (by rw [Try.params10]) (by rfl) Try.underlying4 rfl
    (fun ds h => match ds, h with | [d0, d1, d2], _ => rfl) (by kernel_rfl) (by kernel_rfl)
    (ChangeSpec.witness6 (enc := enc) (C := Try.checked) false ⟨#[], #[.slice none 0 0, .slice none 0 0, .slice none 0 0], []⟩ 8 (by kernel_rfl) (by kernel_rfl) (by kernel_rfl) (by kernel_rfl)) (walks H enc)
theorem closed : joinedFacts Try.prog 10 Try.f10 Rows.reachShortestSpec Rows.reachShortestRow = true := by
  unfold joinedFacts
  rw [mayEnter_cut signs later refl doors, make_cut signs, liftsFinal_cut signs]
  kernel_rfl
theorem over : Rows.reachShortestRow.holds Try.pinned (OpenSpec.ofChange Rows.reachShortestSpec) :=
  OpenClaim.holds_of_wide 10 Try.f10 rfl rfl rfl rfl rfl rfl rfl ⟨rfl, rfl, rfl, rfl, rfl⟩ rfl rfl rfl rfl rfl (by kernel_rfl) Try.func10 closed
    (of_decide_eq_true (by kernel_rfl)) (by unfold Func.isWrapper; first | (rw [if_pos (by decide +kernel)]; kernel_rfl) | (rw [if_neg (by decide +kernel)]; exact ⟨rfl, rfl⟩))
    (fun os started H enc _ => lifted os started H enc)
theorem proved : Rows.ReachShortestSaid := over
#print axioms proved
end Go.Proofs.Ytbcgjjkchmgeoaa.reachShortest
namespace Go.Proofs.Ytbcgjjkchmgeoaa
theorem reachShortest_holds : Rows.ReachShortestSaid := reachShortest.proved
end Go.Proofs.Ytbcgjjkchmgeoaa
