/- WHAT IS PROVED: for every whole number the law JoinPath returns true, and leaves what it was given as it was. No condition. -/
import Derived.Test.YtbcgjjkchmgeoaaRows
import Derived.Test.YtbcgjjkchmgeoaaW10
import Derived.Test.YtbcgjjkchmgeoaaAm20
import Derived.WalkKit
import Derived.ProofKit
namespace Go.Proofs.Ytbcgjjkchmgeoaa.joinPath
open Go Go.Am Go.RowKit Go.ChangeShapes Go.WideShapes

set_option maxRecDepth 100000 in
theorem walks (H : Type) (enc : TypeId × Value → H) : Walks H enc Try.prog 6 [3] := by
  intro w0 base cargs ds ps hA hval hz
  obtain ⟨v0, vs0, d0, ds0, p0, q0, hargs, rfl, rfl, h0, r0⟩ := trodAll_cons hA
  obtain ⟨rfl, rfl, rfl⟩ := trodAll_nil r0
  obtain rfl : cargs = #[v0] := Array.ext' hargs
  obtain ⟨n, rfl⟩ := okWide_int Try.underlying3 (hval 0 3 v0 (by simp) (by simp))
  refine ⟨[I n], .cons (.sc _) .nil, ?_⟩
  exact path_ret.use rfl

set_option maxRecDepth 100000 in
theorem signs : ∃ r, behindMainWord (wordsSigns Try.prog.initOrder.toList) = "cut".toList :: r := signs_of rfl (by kernel_rfl)
theorem later : Try.prog.laysLater = false := by kernel_rfl
theorem refl : Try.prog.bearsReflect = false := by kernel_rfl
theorem doors : Try.prog.doorRows = [] := by kernel_rfl
set_option maxRecDepth 100000 in
theorem lifted (os : Os) (started : os.Started) (H : Type) (enc : TypeId × Value → H) :
    ReturnsInHanded {} Try.checked os 6 .any (Rows.joinPathSpec.pre6 enc Try.prog Try.f6 Rows.joinPathRow.domain false) (Rows.joinPathSpec.post enc Try.prog Try.f6 false true false false) :=
  law_lifted (C := Try.checked) (ts := [3]) (rt := 4) (by kernel_rfl) started (by kernel_rfl) Try.func6 (by rw [Try.params6]) (by rfl) Try.underlying4 rfl
    (fun ds h => match ds, h with | [d], _ => rfl) (by kernel_rfl) (by kernel_rfl)
    (ChangeSpec.witness6 (enc := enc) (C := Try.checked) false ⟨#[], #[.int .i64 0], []⟩ 8 (by kernel_rfl) (by kernel_rfl) (by kernel_rfl) (by kernel_rfl)) (walks H enc)
theorem closed : joinedFacts Try.prog 6 Try.f6 Rows.joinPathSpec Rows.joinPathRow = true := by
  unfold joinedFacts
  rw [mayEnter_cut signs later refl doors, make_cut signs, liftsFinal_cut signs]
  kernel_rfl
theorem over : Rows.joinPathRow.holds Try.pinned (OpenSpec.ofChange Rows.joinPathSpec) :=
  OpenClaim.holds_of_wide 6 Try.f6 rfl rfl rfl rfl rfl rfl rfl ⟨rfl, rfl, rfl, rfl, rfl⟩ rfl rfl rfl rfl rfl (by kernel_rfl) Try.func6 closed
    (of_decide_eq_true (by kernel_rfl)) (by unfold Func.isWrapper; first | (rw [if_pos (by decide +kernel)]; kernel_rfl) | (rw [if_neg (by decide +kernel)]; exact ⟨rfl, rfl⟩))
    (fun os started H enc _ => lifted os started H enc)
theorem proved : Rows.JoinPathSaid := over
#print axioms proved
end Go.Proofs.Ytbcgjjkchmgeoaa.joinPath
namespace Go.Proofs.Ytbcgjjkchmgeoaa
theorem joinPath_holds : Rows.JoinPathSaid := joinPath.proved
end Go.Proofs.Ytbcgjjkchmgeoaa
