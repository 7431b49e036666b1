/- WHAT IS PROVED: for every input the law MatchCertified returns true, and leaves what it was given as it was. No condition. -/
import Derived.Test.YtbcgjjkchmgeoaaRows
import Derived.Test.YtbcgjjkchmgeoaaW43
import Derived.Test.YtbcgjjkchmgeoaaAm21
import Derived.WalkKit
import Derived.ProofKit
namespace Go.Proofs.Ytbcgjjkchmgeoaa.matchCertified
open Go Go.Am Go.RowKit Go.ChangeShapes Go.WideShapes
set_option linter.unusedVariables false

set_option maxRecDepth 100000 in
theorem walks (H : Type) (enc : TypeId × Value → H) : Walks H enc Try.prog 14 [3, 28] :=
  walks2 (fun w0 => arg_int Try.underlying3) (fun w0 => arg_rows Try.underlying28 Try.underlying24 Try.underlying3 (by decide +kernel) (by kernel_rfl) (by decide +kernel) (by kernel_rfl)) (fun _ n adj _ h => matchCertified_ret (Nat.le_trans h.1 (by decide)) (fun p hp => Nat.le_trans (h.2 p hp).1 (by decide)))

set_option maxRecDepth 100000 in
theorem signs : ∃ r, behindMainWord (wordsSigns Try.prog.initOrder.toList) = "cut".toList :: r := signs_of rfl (by kernel_rfl)
theorem later : Try.prog.laysLater = false := by kernel_rfl
theorem refl : Try.prog.bearsReflect = false := by kernel_rfl
theorem doors : Try.prog.doorRows = [] := by kernel_rfl
set_option maxRecDepth 100000 in
theorem lifted (os : Os) (started : os.Started) (H : Type) (enc : TypeId × Value → H) :
    ReturnsInHanded {} Try.checked os 14 .any (Rows.matchCertifiedSpec.pre6 enc Try.prog Try.f14 Rows.matchCertifiedRow.domain false) (Rows.matchCertifiedSpec.post enc Try.prog Try.f14 false true false false) :=
  law_lifted (C := Try.checked) (ts := [3, 28]) (rt := 4) (by kernel_rfl) started (by kernel_rfl) Try.func14 (by rw [Try.params14]) (by rfl) Try.underlying4 rfl
    (fun ds h => match ds, h with | [d0, d1], _ => rfl) (by kernel_rfl) (by kernel_rfl)
    (ChangeSpec.witness6 (enc := enc) (C := Try.checked) false ⟨#[], #[.int .i64 0, .slice none 0 0], []⟩ 8 (by kernel_rfl) (by kernel_rfl) (by kernel_rfl) (by kernel_rfl)) (walks H enc)
theorem closed : joinedFacts Try.prog 14 Try.f14 Rows.matchCertifiedSpec Rows.matchCertifiedRow = true := by
  unfold joinedFacts
  rw [mayEnter_cut signs later refl doors, make_cut signs, liftsFinal_cut signs]
  kernel_rfl
theorem over : Rows.matchCertifiedRow.holds Try.pinned (OpenSpec.ofChange Rows.matchCertifiedSpec) :=
  OpenClaim.holds_of_wide 14 Try.f14 rfl rfl rfl rfl rfl rfl rfl ⟨rfl, rfl, rfl, rfl, rfl⟩ rfl rfl rfl rfl rfl (by kernel_rfl) Try.func14 closed
    (of_decide_eq_true (by kernel_rfl)) (by unfold Func.isWrapper; first | (rw [if_pos (by decide +kernel)]; kernel_rfl) | (rw [if_neg (by decide +kernel)]; exact ⟨rfl, rfl⟩))
    (fun os started H enc _ => lifted os started H enc)
theorem proved : Rows.MatchCertifiedSaid := over
#print axioms proved
end Go.Proofs.Ytbcgjjkchmgeoaa.matchCertified
namespace Go.Proofs.Ytbcgjjkchmgeoaa
theorem matchCertified_holds : Rows.MatchCertifiedSaid := matchCertified.proved
end Go.Proofs.Ytbcgjjkchmgeoaa
