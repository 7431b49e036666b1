/- WHAT IS PROVED: for every input the law SetSorts returns true, and leaves what it was given as it was. No condition. -/
import Derived.Test.YtbcgjjkchmgeoaaRows
import Derived.Test.YtbcgjjkchmgeoaaW32
import Derived.Test.YtbcgjjkchmgeoaaAm21
import Derived.WalkKit
import Derived.ProofKit
namespace Go.Am
open Go Go.Proofs
set_option linter.unusedVariables false
set_option linter.unusedSimpArgs false
variable {w0 : World}
attribute [local irreducible] AWP ACalls
attribute [local congr] acalls_congr

/-- The number in a value, and one. -/
def natB1 : AV → Nat
  | .sc (.int _ i) => (i + 1).toNat
  | _ => 0
attribute [simp] natB1

/-- The list from behind, each number twice. -/
def revD : List Int → List Int
  | [] => []
  | x :: l => revD l ++ [x, x]
theorem mem_revD {x : Int} (l : List Int) : x ∈ revD l ↔ x ∈ l := by
  induction l with
  | nil => rfl
  | cons y l ih => simp [revD, ih, or_comm]
theorem revD_length (l : List Int) : (revD l).length = 2 * l.length := by
  induction l with
  | nil => rfl
  | cons y l ih => simp [revD, ih]; omega
theorem sort_revD (l : List Int) : sortR (revD l) = sortR l := (sortR_spec _).1.ext (sortR_spec _).1 fun x => by rw [(sortR_spec _).2, (sortR_spec _).2, mem_revD]
theorem sort_sort (l : List Int) : sortR (sortR l) = sortR l := sortR_set (sortR_spec l).1

set_option maxHeartbeats 4000000 in
theorem setSorts_ret {l : List Int} {x : Int} (hl0 : l.length ≤ 17592186044416) : Ret Try.prog w0 21 [ints l, I x] (B true) := by
  intro H
  refine w_enter Try.func21 rfl Try.ntmps21 (ts := [4]) rfl (by simp) (by kernel_rfl) ?_
  by_cases h1 : l.length ≤ 100
  rotate_left
  · have h1' : (100 : Int) < l.length := by omega
    repeat' (first
      | (with_reducible refine awp_skip ?_)
      | (with_reducible refine then_any ?_)
      | (with_reducible refine then_ret ?_)
      | (with_reducible refine then_exit ?_)
      | (with_reducible refine inBlock_normal ?_)
      | (with_reducible refine inBlock_ret ?_)
      | (with_reducible refine inBlock_hit ?_)
      | (with_reducible refine inBlock_miss (by decide) ?_)
      | (with_reducible refine awp_ret ?_)
      | (with_reducible refine awp_exit ?_)
      | (with_reducible refine post_ret ?_)
      | (with_reducible refine post_normal ?_)
      | (with_reducible refine awp_block ?_)
      | (with_reducible refine v_reg [] (fun K hK => ?_))
      | (with_reducible refine v_reg1 [] (fun K hK => ?_))
      | (with_reducible refine v_draw mixed [] [] (by kernel_rfl) (fun K hK => ?_))
      | (with_reducible refine v_draw1 mixed [] [] (by kernel_rfl) (fun K hK => ?_))
      | (with_reducible refine ev_nil (hK _ _ ?_); clear hK K)
      | (with_reducible refine ed_nil (hK _ _ ?_); clear hK K)
      | ((first | with_reducible refine ev_cons (fun K' hK' => ?_) | with_reducible refine ed_cons (fun K' hK' => ?_) | (with_reducible refine ev_id ?_; refine ev_guard rfl (fun K' hK' => ?_)) | (with_reducible refine ed_id ?_; refine ed_guard rfl (fun K' hK' => ?_))); simp [ints, h1']; repeat' (first | (with_reducible refine hK' _ _ ?_; clear hK' K') | (with_reducible refine Ret.use fixed2_ret ?_; try simp [ints, h1']) | (with_reducible refine And.intro ?_ ?_) | (with_reducible intro hg) | (clear hK' K'; omega)))
      | (with_reducible refine w_cond (fun A B hA hB => ?_); simp [ints, h1']; repeat' (first | (with_reducible refine hA ?_; clear hA hB A B) | (with_reducible refine hB ?_; clear hA hB A B) | (with_reducible refine And.intro ?_ ?_) | (with_reducible intro hc)))
      | (with_reducible refine awp_seq ?_))
    all_goals simp
  have h1' : ¬ (100 : Int) < l.length := by omega
  repeat' (first
    | (with_reducible refine awp_skip ?_)
    | (with_reducible refine then_any ?_)
    | (with_reducible refine then_ret ?_)
    | (with_reducible refine then_exit ?_)
    | (with_reducible refine inBlock_normal ?_)
    | (with_reducible refine inBlock_ret ?_)
    | (with_reducible refine inBlock_hit ?_)
    | (with_reducible refine inBlock_miss (by decide) ?_)
    | (with_reducible refine awp_ret ?_)
    | (with_reducible refine awp_exit ?_)
    | (with_reducible refine post_ret ?_)
    | (with_reducible refine post_normal ?_)
    | (with_reducible refine awp_block ?_)
    | (with_reducible refine v_reg [17] (fun K hK => ?_))
    | (with_reducible refine v_reg1 [17] (fun K hK => ?_))
    | (with_reducible refine v_draw mixed [17] [] (by kernel_rfl) (fun K hK => ?_))
    | (with_reducible refine v_draw1 mixed [17] [] (by kernel_rfl) (fun K hK => ?_))
    | (with_reducible refine ev_nil (hK _ _ ?_); clear hK K)
    | (with_reducible refine ed_nil (hK _ _ ?_); clear hK K)
    | ((first | with_reducible refine ev_cons (fun K' hK' => ?_) | with_reducible refine ed_cons (fun K' hK' => ?_) | (with_reducible refine ev_id ?_; refine ev_guard rfl (fun K' hK' => ?_)) | (with_reducible refine ed_id ?_; refine ed_guard rfl (fun K' hK' => ?_))); simp [ints, h1']; repeat' (first | (with_reducible refine hK' _ _ ?_; clear hK' K') | (with_reducible refine Ret.use fixed2_ret ?_; try simp [ints, h1']) | (with_reducible refine And.intro ?_ ?_) | (with_reducible intro hg) | (clear hK' K'; omega)))
    | (with_reducible refine w_cond (fun A B hA hB => ?_); simp [ints, h1']; repeat' (first | (with_reducible refine hA ?_; clear hA hB A B) | (with_reducible refine hB ?_; clear hA hB A B) | (with_reducible refine And.intro ?_ ?_) | (with_reducible intro hc)))
    | (with_reducible refine awp_seq ?_))
  rename_i r
  have hr : H r = none := hg
  clear hg
  refine awp_loop (fun env h => ∃ (k : Nat), k ≤ l.length ∧ env 7 = I ((k : Int) - 1) ∧ env 0 = ints l ∧ env 1 = I x ∧ env 6 = B (decide (x ∈ l.drop k) && inB x) ∧ env 5 = .ref r 0 (revD (l.drop k)).length (revD (l.drop k)).length ∧
     h = upd H r (some (.arr 1 3 ((revD (l.drop k)).map I) (revD (l.drop k)).length))) (fun env _ => natB1 (env 7)) ?_ ?_
  · exact ⟨l.length, by omega, by simp, by simp [ints], by simp, by simp, by simp [revD], by simp [revD]⟩
  rintro env h ⟨k, hk, h7, h0, h1, h6, h5, rfl⟩
  cases k with
  | zero =>
    refine awp_frz 5 h5 hr fun env' he' he2 => ?_
    rw [cut_all (by simp)] at he'
    rw [List.drop_zero] at he'
    have g7 : env' 7 = I ((0 : Int) - 1) := by rw [he2 _ (by decide), h7]; rfl
    have g0 : env' 0 = ints l := by rw [he2 _ (by decide), h0]
    have g1 : env' 1 = I x := by rw [he2 _ (by decide), h1]
    have g6 : env' 6 = B (decide (x ∈ l) && inB x) := by rw [he2 _ (by decide), h6, List.drop_zero]
    have hsl := sortR_length l
    have c1 := set_sort_ret (w0 := w0) (l := l) (by omega)
    have c2 := set_sort_ret (w0 := w0) (l := sortR l) (by omega)
    rw [sort_sort] at c2
    have c3 := set_sort_ret (w0 := w0) (l := revD l) (by rw [revD_length]; omega)
    rw [sort_revD] at c3
    have c4 := may_ret (w0 := w0) (l := sortR l) (by omega)
    rw [(sortR_spec l).1.rb] at c4
    have c5 := has_mem (w0 := w0) (x := x) (l := sortR l) (by omega) (sortR_spec l).1
    have c6 := self_ret (w0 := w0) (a := sortR l) (by omega)
    have hd : decide (x ∈ sortR l) = (decide (x ∈ l) && inB x) := by
      rw [Bool.eq_iff_iff]; simp [(sortR_spec l).2, inB]
    rw [hd] at c5
    generalize (decide (x ∈ l) && inB x) = bin at *
    repeat' (first
      | (with_reducible refine awp_skip ?_)
      | (with_reducible refine then_any ?_)
      | (with_reducible refine then_ret ?_)
      | (with_reducible refine then_exit ?_)
      | (with_reducible refine inBlock_normal ?_)
      | (with_reducible refine inBlock_ret ?_)
      | (with_reducible refine inBlock_hit ?_)
      | (with_reducible refine inBlock_miss (by decide) ?_)
      | (with_reducible refine awp_ret ?_)
      | (with_reducible refine awp_exit ?_)
      | (with_reducible refine post_ret ?_)
      | (with_reducible refine post_normal ?_)
      | (with_reducible refine awp_block ?_)
      | (with_reducible refine v_reg [] (fun K hK => ?_))
      | (with_reducible refine v_reg1 [] (fun K hK => ?_))
      | (with_reducible refine v_draw mixed [] [] (by kernel_rfl) (fun K hK => ?_))
      | (with_reducible refine v_draw1 mixed [] [] (by kernel_rfl) (fun K hK => ?_))
      | (with_reducible refine ev_nil (hK _ _ ?_); clear hK K)
      | (with_reducible refine ed_nil (hK _ _ ?_); clear hK K)
      | ((first | with_reducible refine ev_cons (fun K' hK' => ?_) | with_reducible refine ed_cons (fun K' hK' => ?_) | (with_reducible refine ev_id ?_; refine ev_guard rfl (fun K' hK' => ?_)) | (with_reducible refine ed_id ?_; refine ed_guard rfl (fun K' hK' => ?_))); simp [ints, he', g7, g0, g1, g6]; repeat' (first | (with_reducible refine hK' _ _ ?_; clear hK' K') | (with_reducible refine Ret.use c1 ?_; try simp [ints, he', g7, g0, g1, g6]) | (with_reducible refine Ret.use c2 ?_; try simp [ints, he', g7, g0, g1, g6]) | (with_reducible refine Ret.use c3 ?_; try simp [ints, he', g7, g0, g1, g6]) | (with_reducible refine Ret.use c4 ?_; try simp [ints, he', g7, g0, g1, g6]) | (with_reducible refine Ret.use c5 ?_; try simp [ints, he', g7, g0, g1, g6]) | (with_reducible refine Ret.use c6 ?_; try simp [ints, he', g7, g0, g1, g6]) | (with_reducible refine And.intro ?_ ?_) | (with_reducible intro hg) | (clear hK' K'; omega)))
      | (with_reducible refine w_cond (fun A B hA hB => ?_); simp [ints, he', g7, g0, g1, g6]; repeat' (first | (with_reducible refine hA ?_; clear hA hB A B) | (with_reducible refine hB ?_; clear hA hB A B) | (with_reducible refine And.intro ?_ ?_) | (with_reducible intro hc)))
      | (with_reducible refine awp_seq ?_))
    all_goals try simp
  | succ k =>
    have hlt : k < l.length := by omega
    have e7 : ((k + 1 : Nat) : Int) - 1 = k := by omega
    have hd : revD (l.drop k) = revD (l.drop (k + 1)) ++ [l[k], l[k]] := by rw [List.drop_eq_getElem_cons hlt, revD]
    have hin : (decide (x ∈ l.drop k) && inB x) = ((decide (x ∈ l.drop (k + 1)) && inB x) || (decide (x = l[k]) && decide (0 ≤ x) && decide (x ≤ 1099511627776))) := by
      rw [List.drop_eq_getElem_cons hlt]
      simp only [List.mem_cons, inB]
      by_cases a1 : x = l[k] <;> by_cases a2 : x ∈ l.drop (k + 1) <;> by_cases a3 : 0 ≤ x <;> by_cases a4 : x ≤ 1099511627776 <;> simp [a1, a2, a3, a4] <;> simp_all
    have hbl : (revD (l.drop (k + 1))).length ≤ 300 := by rw [revD_length, List.length_drop]; omega
    rw [e7] at h7
    have hmu : natB1 (env 7) = k + 1 := by rw [h7]; simp
    rw [hmu]; clear hmu
    generalize revD (l.drop (k + 1)) = back at *
    generalize (decide (x ∈ l.drop (k + 1)) && inB x) = bin at *
    repeat' (first
      | (with_reducible refine awp_skip ?_)
      | (with_reducible refine then_any ?_)
      | (with_reducible refine then_ret ?_)
      | (with_reducible refine then_exit ?_)
      | (with_reducible refine inBlock_normal ?_)
      | (with_reducible refine inBlock_ret ?_)
      | (with_reducible refine inBlock_hit ?_)
      | (with_reducible refine inBlock_miss (by decide) ?_)
      | (with_reducible refine awp_ret ?_)
      | (with_reducible refine awp_exit ?_)
      | (with_reducible refine post_ret ?_)
      | (with_reducible refine post_normal ?_)
      | (with_reducible refine awp_block ?_)
      | (with_reducible refine v_reg [] (fun K hK => ?_))
      | (with_reducible refine v_reg1 [] (fun K hK => ?_))
      | (with_reducible refine v_draw mixed [] [] (by kernel_rfl) (fun K hK => ?_))
      | (with_reducible refine v_draw1 mixed [] [] (by kernel_rfl) (fun K hK => ?_))
      | (with_reducible refine ev_nil (hK _ _ ?_); clear hK K)
      | (with_reducible refine ed_nil (hK _ _ ?_); clear hK K)
      | ((first | with_reducible refine ev_cons (fun K' hK' => ?_) | with_reducible refine ed_cons (fun K' hK' => ?_) | (with_reducible refine ev_id ?_; refine ev_guard rfl (fun K' hK' => ?_)) | (with_reducible refine ed_id ?_; refine ed_guard rfl (fun K' hK' => ?_))); simp [ints, h7, h0, h1, h6, h5, hlt]; repeat' (first | (with_reducible refine hK' _ _ ?_; clear hK' K') | (with_reducible refine And.intro ?_ ?_) | (with_reducible intro hg) | (clear hK' K'; omega)))
      | (with_reducible refine w_cond (fun A B hA hB => ?_); simp [ints, h7, h0, h1, h6, h5, hlt]; repeat' (first | (with_reducible refine hA ?_; clear hA hB A B) | (with_reducible refine hB ?_; clear hA hB A B) | (with_reducible refine And.intro ?_ ?_) | (with_reducible intro hc)))
      | (with_reducible refine awp_seq ?_))
    all_goals try omega
    all_goals (
      refine ⟨⟨k, by omega, by simp, by simp [h0, ints], by simp [h1], ?_, by rw [hd]; simp [h5], by rw [hd]; simp⟩, by simp⟩
      rw [hin]
      clear hin hd h7 h5 h6 h0 h1
      simp_all
      try (first | omega | (intro e; exact absurd e.symm ‹_›)))
#print axioms setSorts_ret
end Go.Am
namespace Go.Proofs.Ytbcgjjkchmgeoaa.setSorts
open Go Go.Am Go.RowKit Go.ChangeShapes Go.WideShapes
set_option linter.unusedVariables false

set_option maxRecDepth 100000 in
theorem walks (H : Type) (enc : TypeId × Value → H) : Walks H enc Try.prog 21 [24, 3] :=
  walks2 (fun w0 => arg_ints Try.underlying24 Try.underlying3 (by decide +kernel) (by kernel_rfl)) (fun w0 => arg_int Try.underlying3) (fun _ l x h _ => setSorts_ret h.1)

set_option maxRecDepth 100000 in
theorem signs : ∃ r, behindMainWord (wordsSigns Try.prog.initOrder.toList) = "cut".toList :: r := signs_of rfl (by kernel_rfl)
theorem later : Try.prog.laysLater = false := by kernel_rfl
theorem refl : Try.prog.bearsReflect = false := by kernel_rfl
theorem doors : Try.prog.doorRows = [] := by kernel_rfl
set_option maxRecDepth 100000 in
theorem lifted (os : Os) (started : os.Started) (H : Type) (enc : TypeId × Value → H) :
    ReturnsInHanded {} Try.checked os 21 .any (Rows.setSortsSpec.pre6 enc Try.prog Try.f21 Rows.setSortsRow.domain false) (Rows.setSortsSpec.post enc Try.prog Try.f21 false true false false) :=
  law_lifted (C := Try.checked) (ts := [24, 3]) (rt := 4) (by kernel_rfl) started (by kernel_rfl) Try.func21 (by rw [Try.params21]) (by rfl) Try.underlying4 rfl
    (fun ds h => match ds, h with | [d0, d1], _ => rfl) (by kernel_rfl) (by kernel_rfl)
    (ChangeSpec.witness6 (enc := enc) (C := Try.checked) false ⟨#[], #[.slice none 0 0, .int .i64 0], []⟩ 8 (by kernel_rfl) (by kernel_rfl) (by kernel_rfl) (by kernel_rfl)) (walks H enc)
theorem closed : joinedFacts Try.prog 21 Try.f21 Rows.setSortsSpec Rows.setSortsRow = true := by
  unfold joinedFacts
  rw [mayEnter_cut signs later refl doors, make_cut signs, liftsFinal_cut signs]
  kernel_rfl
theorem over : Rows.setSortsRow.holds Try.pinned (OpenSpec.ofChange Rows.setSortsSpec) :=
  OpenClaim.holds_of_wide 21 Try.f21 rfl rfl rfl rfl rfl rfl rfl ⟨rfl, rfl, rfl, rfl, rfl⟩ rfl rfl rfl rfl rfl (by kernel_rfl) Try.func21 closed
    (of_decide_eq_true (by kernel_rfl)) (by unfold Func.isWrapper; first | (rw [if_pos (by decide +kernel)]; kernel_rfl) | (rw [if_neg (by decide +kernel)]; exact ⟨rfl, rfl⟩))
    (fun os started H enc _ => lifted os started H enc)
theorem proved : Rows.SetSortsSaid := over
#print axioms proved
end Go.Proofs.Ytbcgjjkchmgeoaa.setSorts
namespace Go.Proofs.Ytbcgjjkchmgeoaa
theorem setSorts_holds : Rows.SetSortsSaid := setSorts.proved
end Go.Proofs.Ytbcgjjkchmgeoaa
