/- Law: ArcsTell. -/
import Derived.Test.YtkgcmgbndapjcaaW62
import Derived.Test.YtkgcmgbndapjcaaA8
namespace Go.Am
open Go Go.Proofs
set_option linter.unusedVariables false
set_option linter.unusedSimpArgs false
variable {w0 : World}
attribute [local irreducible] AWP ACalls
attribute [local congr] acalls_congr

theorem packI_small (arcs : List (Int × Int)) (n : Nat) (root : Int) (k i : Nat) : ∀ p ∈ (packI arcs n root k i).2, p.length ≤ arcs.length := by
  induction i with
  | zero => intro p hp; cases hp
  | succ i ih =>
    intro p hp
    rcases List.mem_append.1 hp with hp | hp
    · exact ih p hp
    · simp at hp; subst hp
      have := List.length_filter_le (fun i_1 => decide (i_1 ∈ (finG arcs n root (k - 1 - i) (packI arcs n root k i).1).out)) (upto arcs.length)
      rw [upto_length] at this
      exact this
theorem packT_form {n root k : Int} {arcs : List (Int × Int)} (ha : arcs.length ≤ 4096) : ∃ L s e, packT n arcs root k = .tup [rows L, ints s, I e] ∧ L.length ≤ 8 ∧ (∀ p ∈ L, p.length ≤ 4096) ∧ s.length ≤ 4096 := by
  by_cases hK : mayK n arcs root k = true
  · have hK' := hK
    simp only [mayK, Bool.and_eq_true, decide_eq_true_eq] at hK'
    obtain ⟨⟨hA, hk1⟩, hk8⟩ := hK'
    obtain ⟨m, rfl, hm1, N⟩ := mayA_net hA
    have hnl := N.nle
    rw [packT, if_pos hK]
    cases hb : badV arcs (m : Int).toNat root k.toNat with
    | some v =>
      refine ⟨[], _, 200, rfl, by simp, by simp, ?_⟩
      rw [badV] at hb
      have h1 := List.find?_some hb
      have h2 := mem_upto.1 (List.mem_of_find?_eq_some hb)
      simp only [Bool.and_eq_true, decide_eq_true_eq] at h1
      have hF := N.flow no0 (v := v) (by omega) h1.1
      have := up_length hF.up hF.rng
      rw [show (m : Int).toNat = m by omega]
      omega
    | none =>
      exact ⟨_, [], 0, rfl, by rw [packI_length]; omega, fun p hp => by have := packI_small _ _ _ _ _ p hp; omega, by simp⟩
  · exact ⟨[], [], 1, by rw [packT, if_neg hK], by simp, by simp, by simp⟩
theorem flowT_form {n root v : Int} {arcs : List (Int × Int)} : ∃ u s e, flowT n arcs root v = .tup [I u, ints s, I e] ∧ s.length ≤ 4096 := by
  by_cases hK : mayF n arcs root v = true
  · have hK' := hK
    simp only [mayF, Bool.and_eq_true, decide_eq_true_eq] at hK'
    obtain ⟨⟨⟨hA, hv0⟩, hvn⟩, hvr⟩ := hK'
    obtain ⟨m, rfl, hm1, N⟩ := mayA_net hA
    have hnl := N.nle
    have hF := N.flow no0 ⟨hv0, hvn⟩ hvr
    have := up_length hF.up hF.rng
    exact ⟨_, _, 0, by rw [flowT, if_pos hK], by rw [show (m : Int).toNat = m by omega]; omega⟩
  · exact ⟨0, [], 1, by rw [flowT, if_neg hK], by simp⟩

set_option maxHeartbeats 8000000 in
set_option maxRecDepth 20000 in
theorem tell20_ret {n root k v : Int} {arcs : List (Int × Int)} (ha : okLen arcs) : Ret Try.prog w0 3 [.agg [I n, pairs arcs, I root, I k], I v] (B true) := by
  intro H
  refine w_enter Try.func3 rfl Try.ntmps3 (ts := [4]) rfl (by simp) (by kernel_rfl) ?_
  by_cases hg0 : (5 < n ∧ n ≤ 64) ∨ 8 < arcs.length ∨ (3 < k ∧ k ≤ 8)
  · repeat' (first
      | (with_reducible refine awp_skip ?_)
      | (with_reducible refine then_any ?_)
      | (with_reducible refine then_ret ?_)
      | (with_reducible refine then_exit ?_)
      | (with_reducible refine inBlock_normal ?_)
      | (with_reducible refine inBlock_ret ?_)
      | (with_reducible refine inBlock_hit ?_)
      | (with_reducible refine inBlock_miss (by decide) ?_)
      | (with_reducible refine awp_ret ?_)
      | (with_reducible refine awp_exit ?_)
      | (with_reducible refine post_ret ?_)
      | (with_reducible refine post_normal ?_)
      | (with_reducible refine awp_block ?_)
      | (with_reducible refine awp_scope_ret ?_)
      | (with_reducible refine awp_label ?_)
      | (with_reducible refine v_reg [] (fun K hK => ?_))
      | (with_reducible refine v_reg1 [] (fun K hK => ?_))
      | (with_reducible refine v_draw mixed [] [] (by kernel_rfl) (fun K hK => ?_))
      | (with_reducible refine v_draw1 mixed [] [] (by kernel_rfl) (fun K hK => ?_))
      | (with_reducible refine ev_nil (hK _ _ ?_); clear hK K)
      | (with_reducible refine ed_nil (hK _ _ ?_); clear hK K)
      | ((first | with_reducible refine ev_cons (fun K' hK' => ?_) | with_reducible refine ed_cons (fun K' hK' => ?_) | (with_reducible refine ev_id ?_; refine ev_guard rfl (fun K' hK' => ?_)) | (with_reducible refine ed_id ?_; refine ed_guard rfl (fun K' hK' => ?_))); simp [pairs]; repeat' (first | (with_reducible refine hK' _ _ ?_; clear hK' K') | (with_reducible refine Ret.use fixed20_ret ?_; try simp [pairs]) | (with_reducible refine And.intro ?_ ?_) | (with_reducible intro hg) | (clear hK' K'; omega)))
      | (with_reducible refine w_cond (fun A B hA hB => ?_); simp [pairs]; repeat' (first | (with_reducible refine hA ?_; clear hA hB A B) | (with_reducible refine hB ?_; clear hA hB A B) | (with_reducible refine And.intro ?_ ?_) | (with_reducible intro hc)))
      | (with_reducible refine awp_seq ?_))
    all_goals first
      | (exfalso; omega)
      | exact ⟨by simp, sub_new (by assumption)⟩
  · have hl : arcs.length ≤ 8 := by omega
    have hn : n ≤ 30 ∨ 64 < n := by omega
    have hs : smLen arcs := by simp only [smLen]; omega
    obtain ⟨L, s, e, hp, b1, b2, b3⟩ := packT_form (n := n) (root := root) (k := k) (arcs := arcs) (by omega)
    obtain ⟨u, t, f, hf, b4⟩ := flowT_form (n := n) (root := root) (v := v) (arcs := arcs)
    have c1 := pack_ret (w0 := w0) (n := n) (root := root) (k := k) hs
    have c2 := pack20_ret (w0 := w0) (n := n) (root := root) (k := k) hs hn
    have c3 := flow_ret (w0 := w0) (n := n) (root := root) (v := v) hs
    have c4 := flow20_ret (w0 := w0) (n := n) (root := root) (v := v) hs hn
    rw [hp] at c1 c2
    rw [hf] at c3 c4
    have c5 := lists13_ret (w0 := w0) (a := L) (b := L) (by simp only [okLen]; omega) (by simp only [okLen]; omega) (fun p hp => by have := b2 p hp; simp only [okLen]; omega) (fun p hp => by have := b2 p hp; simp only [okLen]; omega)
    have c6 := same_ret (w0 := w0) (a := s) (b := s) (by simp only [okLen]; omega) (by simp only [okLen]; omega)
    have c7 := same_ret (w0 := w0) (a := t) (b := t) (by simp only [okLen]; omega) (by simp only [okLen]; omega)
    have c8 := arcsMay_ret (w0 := w0) (n := n) (root := root) (k := k) hs
    have c9 := may20_ret (w0 := w0) (n := n) (root := root) (k := k) hs
    have hl' : ¬ (8 : Int) < arcs.length := by omega
    have hn5 : ¬ 5 < n ∨ (5 < n ∧ ¬ n ≤ 64) := by omega
    have hk3 : ¬ 3 < k ∨ (3 < k ∧ ¬ k ≤ 8) := by omega
    rcases hn5 with g1 | ⟨g1, g2⟩ <;> rcases hk3 with g3 | ⟨g3, g4⟩
    · repeat' (first
        | (with_reducible refine awp_skip ?_)
        | (with_reducible refine then_any ?_)
        | (with_reducible refine then_ret ?_)
        | (with_reducible refine then_exit ?_)
        | (with_reducible refine inBlock_normal ?_)
        | (with_reducible refine inBlock_ret ?_)
        | (with_reducible refine inBlock_hit ?_)
        | (with_reducible refine inBlock_miss (by decide) ?_)
        | (with_reducible refine awp_ret ?_)
        | (with_reducible refine awp_exit ?_)
        | (with_reducible refine post_ret ?_)
        | (with_reducible refine post_normal ?_)
        | (with_reducible refine awp_block ?_)
        | (with_reducible refine awp_scope_ret ?_)
        | (with_reducible refine awp_label ?_)
        | ((fail_if_success (with_reducible refine at_reg 7 ?_)); with_reducible refine v_reg [] (fun K hK => ?_))
        | (with_reducible refine v_reg1 [] (fun K hK => ?_))
        | ((fail_if_success (with_reducible refine at_reg 7 ?_)); with_reducible refine v_draw mixed [] [] (by kernel_rfl) (fun K hK => ?_))
        | (with_reducible refine v_draw1 mixed [] [] (by kernel_rfl) (fun K hK => ?_))
        | (with_reducible refine ev_nil (hK _ _ ?_); clear hK K)
        | (with_reducible refine ed_nil (hK _ _ ?_); clear hK K)
        | ((first | with_reducible refine ev_cons (fun K' hK' => ?_) | with_reducible refine ed_cons (fun K' hK' => ?_) | (with_reducible refine ev_id ?_; refine ev_guard rfl (fun K' hK' => ?_)) | (with_reducible refine ed_id ?_; refine ed_guard rfl (fun K' hK' => ?_))); simp [pairs, g1, g3, hl']; repeat' (first | (with_reducible refine hK' _ _ ?_; clear hK' K') | (with_reducible refine Ret.use fixed20_ret ?_; try simp [pairs, g1, g3, hl']) | (with_reducible refine Ret.use c1 ?_; try simp [pairs, g1, g3, hl']) | (with_reducible refine Ret.use c2 ?_; try simp [pairs, g1, g3, hl']) | (with_reducible refine Ret.use c3 ?_; try simp [pairs, g1, g3, hl']) | (with_reducible refine Ret.use c4 ?_; try simp [pairs, g1, g3, hl']) | (with_reducible refine Ret.use c5 ?_; try simp [pairs, g1, g3, hl']) | (with_reducible refine Ret.use c6 ?_; try simp [pairs, g1, g3, hl']) | (with_reducible refine Ret.use c7 ?_; try simp [pairs, g1, g3, hl']) | (with_reducible refine Ret.use c8 ?_; try simp [pairs, g1, g3, hl']) | (with_reducible refine Ret.use c9 ?_; try simp [pairs, g1, g3, hl']) | (with_reducible refine And.intro ?_ ?_) | (with_reducible intro hg) | (clear hK' K'; omega)))
        | (with_reducible refine w_cond (fun A B hA hB => ?_); simp [pairs, g1, g3, hl']; repeat' (first | (with_reducible refine hA ?_; clear hA hB A B) | (with_reducible refine hB ?_; clear hA hB A B) | (with_reducible refine And.intro ?_ ?_) | (with_reducible intro hc)))
        | ((fail_if_success (with_reducible refine at_reg 7 ?_)); with_reducible refine awp_seq ?_))
      refine v_draw_perm mixed [] [125, 127, 129, 131, 134, 136, 138, 140] [0, 1, 2, 3, 4, 5, 6, 7, 8, 9, 10, 11, 12, 13, 14, 15, 16, 17, 18, 19, 20, 21, 22, 23, 24, 25, 26, 27, 28, 29, 30, 31, 32, 33, 34, 35, 36, 37, 38, 39, 41, 42, 43, 44, 45, 46, 47, 48, 40, 49, 50, 51, 52] (by kernel_rfl) (fun K hK => ?_)
      simp only [List.filterMap_cons, List.filterMap_nil, List.getElem?_cons_succ, List.getElem?_cons_zero]
      repeat' (first
        | (with_reducible refine awp_skip ?_)
        | (with_reducible refine then_any ?_)
        | (with_reducible refine then_ret ?_)
        | (with_reducible refine then_exit ?_)
        | (with_reducible refine inBlock_normal ?_)
        | (with_reducible refine inBlock_ret ?_)
        | (with_reducible refine inBlock_hit ?_)
        | (with_reducible refine inBlock_miss (by decide) ?_)
        | (with_reducible refine awp_ret ?_)
        | (with_reducible refine awp_exit ?_)
        | (with_reducible refine post_ret ?_)
        | (with_reducible refine post_normal ?_)
        | (with_reducible refine awp_block ?_)
        | (with_reducible refine awp_scope_ret ?_)
        | (with_reducible refine awp_label ?_)
        | (with_reducible refine v_reg [] (fun K hK => ?_))
        | (with_reducible refine v_reg1 [] (fun K hK => ?_))
        | (with_reducible refine v_draw mixed [] [] (by kernel_rfl) (fun K hK => ?_))
        | (with_reducible refine v_draw1 mixed [] [] (by kernel_rfl) (fun K hK => ?_))
        | (with_reducible refine ev_nil (hK _ _ ?_); clear hK K)
        | (with_reducible refine ed_nil (hK _ _ ?_); clear hK K)
        | ((first | with_reducible refine ev_cons (fun K' hK' => ?_) | with_reducible refine ed_cons (fun K' hK' => ?_) | (with_reducible refine ev_id ?_; refine ev_guard rfl (fun K' hK' => ?_)) | (with_reducible refine ed_id ?_; refine ed_guard rfl (fun K' hK' => ?_))); simp [pairs, boxes, Blk.isArr, KeepsBox.refl]; repeat' (first | (with_reducible refine hK' _ _ ?_; clear hK' K') | (with_reducible refine Ret.use fixed20_ret ?_; try simp [pairs, boxes, Blk.isArr, KeepsBox.refl]) | (with_reducible refine Ret.use c1 ?_; try simp [pairs, boxes, Blk.isArr, KeepsBox.refl]) | (with_reducible refine Ret.use c2 ?_; try simp [pairs, boxes, Blk.isArr, KeepsBox.refl]) | (with_reducible refine Ret.use c3 ?_; try simp [pairs, boxes, Blk.isArr, KeepsBox.refl]) | (with_reducible refine Ret.use c4 ?_; try simp [pairs, boxes, Blk.isArr, KeepsBox.refl]) | (with_reducible refine Ret.use c5 ?_; try simp [pairs, boxes, Blk.isArr, KeepsBox.refl]) | (with_reducible refine Ret.use c6 ?_; try simp [pairs, boxes, Blk.isArr, KeepsBox.refl]) | (with_reducible refine Ret.use c7 ?_; try simp [pairs, boxes, Blk.isArr, KeepsBox.refl]) | (with_reducible refine Ret.use c8 ?_; try simp [pairs, boxes, Blk.isArr, KeepsBox.refl]) | (with_reducible refine Ret.use c9 ?_; try simp [pairs, boxes, Blk.isArr, KeepsBox.refl]) | (with_reducible refine And.intro ?_ ?_) | (with_reducible intro hg) | (clear hK' K'; omega)))
        | (with_reducible refine w_cond (fun A B hA hB => ?_); simp [pairs, boxes, Blk.isArr, KeepsBox.refl]; repeat' (first | (with_reducible refine hA ?_; clear hA hB A B) | (with_reducible refine hB ?_; clear hA hB A B) | (with_reducible refine And.intro ?_ ?_) | (with_reducible intro hc)))
        | (with_reducible refine awp_seq ?_))
      exact ⟨by simp, sub_new (by assumption)⟩
    · repeat' (first
        | (with_reducible refine awp_skip ?_)
        | (with_reducible refine then_any ?_)
        | (with_reducible refine then_ret ?_)
        | (with_reducible refine then_exit ?_)
        | (with_reducible refine inBlock_normal ?_)
        | (with_reducible refine inBlock_ret ?_)
        | (with_reducible refine inBlock_hit ?_)
        | (with_reducible refine inBlock_miss (by decide) ?_)
        | (with_reducible refine awp_ret ?_)
        | (with_reducible refine awp_exit ?_)
        | (with_reducible refine post_ret ?_)
        | (with_reducible refine post_normal ?_)
        | (with_reducible refine awp_block ?_)
        | (with_reducible refine awp_scope_ret ?_)
        | (with_reducible refine awp_label ?_)
        | ((fail_if_success (with_reducible refine at_reg 7 ?_)); with_reducible refine v_reg [] (fun K hK => ?_))
        | (with_reducible refine v_reg1 [] (fun K hK => ?_))
        | ((fail_if_success (with_reducible refine at_reg 7 ?_)); with_reducible refine v_draw mixed [] [] (by kernel_rfl) (fun K hK => ?_))
        | (with_reducible refine v_draw1 mixed [] [] (by kernel_rfl) (fun K hK => ?_))
        | (with_reducible refine ev_nil (hK _ _ ?_); clear hK K)
        | (with_reducible refine ed_nil (hK _ _ ?_); clear hK K)
        | ((first | with_reducible refine ev_cons (fun K' hK' => ?_) | with_reducible refine ed_cons (fun K' hK' => ?_) | (with_reducible refine ev_id ?_; refine ev_guard rfl (fun K' hK' => ?_)) | (with_reducible refine ed_id ?_; refine ed_guard rfl (fun K' hK' => ?_))); simp [pairs, g1, g3, g4, hl']; repeat' (first | (with_reducible refine hK' _ _ ?_; clear hK' K') | (with_reducible refine Ret.use fixed20_ret ?_; try simp [pairs, g1, g3, g4, hl']) | (with_reducible refine Ret.use c1 ?_; try simp [pairs, g1, g3, g4, hl']) | (with_reducible refine Ret.use c2 ?_; try simp [pairs, g1, g3, g4, hl']) | (with_reducible refine Ret.use c3 ?_; try simp [pairs, g1, g3, g4, hl']) | (with_reducible refine Ret.use c4 ?_; try simp [pairs, g1, g3, g4, hl']) | (with_reducible refine Ret.use c5 ?_; try simp [pairs, g1, g3, g4, hl']) | (with_reducible refine Ret.use c6 ?_; try simp [pairs, g1, g3, g4, hl']) | (with_reducible refine Ret.use c7 ?_; try simp [pairs, g1, g3, g4, hl']) | (with_reducible refine Ret.use c8 ?_; try simp [pairs, g1, g3, g4, hl']) | (with_reducible refine Ret.use c9 ?_; try simp [pairs, g1, g3, g4, hl']) | (with_reducible refine And.intro ?_ ?_) | (with_reducible intro hg) | (clear hK' K'; omega)))
        | (with_reducible refine w_cond (fun A B hA hB => ?_); simp [pairs, g1, g3, g4, hl']; repeat' (first | (with_reducible refine hA ?_; clear hA hB A B) | (with_reducible refine hB ?_; clear hA hB A B) | (with_reducible refine And.intro ?_ ?_) | (with_reducible intro hc)))
        | ((fail_if_success (with_reducible refine at_reg 7 ?_)); with_reducible refine awp_seq ?_))
      refine v_draw_perm mixed [] [125, 127, 129, 131, 134, 136, 138, 140] [0, 1, 2, 3, 4, 5, 6, 7, 8, 9, 10, 11, 12, 13, 14, 15, 16, 17, 18, 19, 20, 21, 22, 23, 24, 25, 26, 27, 28, 29, 30, 31, 32, 33, 34, 35, 36, 37, 38, 39, 41, 42, 43, 44, 45, 46, 47, 48, 40, 49, 50, 51, 52] (by kernel_rfl) (fun K hK => ?_)
      simp only [List.filterMap_cons, List.filterMap_nil, List.getElem?_cons_succ, List.getElem?_cons_zero]
      repeat' (first
        | (with_reducible refine awp_skip ?_)
        | (with_reducible refine then_any ?_)
        | (with_reducible refine then_ret ?_)
        | (with_reducible refine then_exit ?_)
        | (with_reducible refine inBlock_normal ?_)
        | (with_reducible refine inBlock_ret ?_)
        | (with_reducible refine inBlock_hit ?_)
        | (with_reducible refine inBlock_miss (by decide) ?_)
        | (with_reducible refine awp_ret ?_)
        | (with_reducible refine awp_exit ?_)
        | (with_reducible refine post_ret ?_)
        | (with_reducible refine post_normal ?_)
        | (with_reducible refine awp_block ?_)
        | (with_reducible refine awp_scope_ret ?_)
        | (with_reducible refine awp_label ?_)
        | (with_reducible refine v_reg [] (fun K hK => ?_))
        | (with_reducible refine v_reg1 [] (fun K hK => ?_))
        | (with_reducible refine v_draw mixed [] [] (by kernel_rfl) (fun K hK => ?_))
        | (with_reducible refine v_draw1 mixed [] [] (by kernel_rfl) (fun K hK => ?_))
        | (with_reducible refine ev_nil (hK _ _ ?_); clear hK K)
        | (with_reducible refine ed_nil (hK _ _ ?_); clear hK K)
        | ((first | with_reducible refine ev_cons (fun K' hK' => ?_) | with_reducible refine ed_cons (fun K' hK' => ?_) | (with_reducible refine ev_id ?_; refine ev_guard rfl (fun K' hK' => ?_)) | (with_reducible refine ed_id ?_; refine ed_guard rfl (fun K' hK' => ?_))); simp [pairs, boxes, Blk.isArr, KeepsBox.refl]; repeat' (first | (with_reducible refine hK' _ _ ?_; clear hK' K') | (with_reducible refine Ret.use fixed20_ret ?_; try simp [pairs, boxes, Blk.isArr, KeepsBox.refl]) | (with_reducible refine Ret.use c1 ?_; try simp [pairs, boxes, Blk.isArr, KeepsBox.refl]) | (with_reducible refine Ret.use c2 ?_; try simp [pairs, boxes, Blk.isArr, KeepsBox.refl]) | (with_reducible refine Ret.use c3 ?_; try simp [pairs, boxes, Blk.isArr, KeepsBox.refl]) | (with_reducible refine Ret.use c4 ?_; try simp [pairs, boxes, Blk.isArr, KeepsBox.refl]) | (with_reducible refine Ret.use c5 ?_; try simp [pairs, boxes, Blk.isArr, KeepsBox.refl]) | (with_reducible refine Ret.use c6 ?_; try simp [pairs, boxes, Blk.isArr, KeepsBox.refl]) | (with_reducible refine Ret.use c7 ?_; try simp [pairs, boxes, Blk.isArr, KeepsBox.refl]) | (with_reducible refine Ret.use c8 ?_; try simp [pairs, boxes, Blk.isArr, KeepsBox.refl]) | (with_reducible refine Ret.use c9 ?_; try simp [pairs, boxes, Blk.isArr, KeepsBox.refl]) | (with_reducible refine And.intro ?_ ?_) | (with_reducible intro hg) | (clear hK' K'; omega)))
        | (with_reducible refine w_cond (fun A B hA hB => ?_); simp [pairs, boxes, Blk.isArr, KeepsBox.refl]; repeat' (first | (with_reducible refine hA ?_; clear hA hB A B) | (with_reducible refine hB ?_; clear hA hB A B) | (with_reducible refine And.intro ?_ ?_) | (with_reducible intro hc)))
        | (with_reducible refine awp_seq ?_))
      exact ⟨by simp, sub_new (by assumption)⟩
    · repeat' (first
        | (with_reducible refine awp_skip ?_)
        | (with_reducible refine then_any ?_)
        | (with_reducible refine then_ret ?_)
        | (with_reducible refine then_exit ?_)
        | (with_reducible refine inBlock_normal ?_)
        | (with_reducible refine inBlock_ret ?_)
        | (with_reducible refine inBlock_hit ?_)
        | (with_reducible refine inBlock_miss (by decide) ?_)
        | (with_reducible refine awp_ret ?_)
        | (with_reducible refine awp_exit ?_)
        | (with_reducible refine post_ret ?_)
        | (with_reducible refine post_normal ?_)
        | (with_reducible refine awp_block ?_)
        | (with_reducible refine awp_scope_ret ?_)
        | (with_reducible refine awp_label ?_)
        | ((fail_if_success (with_reducible refine at_reg 7 ?_)); with_reducible refine v_reg [] (fun K hK => ?_))
        | (with_reducible refine v_reg1 [] (fun K hK => ?_))
        | ((fail_if_success (with_reducible refine at_reg 7 ?_)); with_reducible refine v_draw mixed [] [] (by kernel_rfl) (fun K hK => ?_))
        | (with_reducible refine v_draw1 mixed [] [] (by kernel_rfl) (fun K hK => ?_))
        | (with_reducible refine ev_nil (hK _ _ ?_); clear hK K)
        | (with_reducible refine ed_nil (hK _ _ ?_); clear hK K)
        | ((first | with_reducible refine ev_cons (fun K' hK' => ?_) | with_reducible refine ed_cons (fun K' hK' => ?_) | (with_reducible refine ev_id ?_; refine ev_guard rfl (fun K' hK' => ?_)) | (with_reducible refine ed_id ?_; refine ed_guard rfl (fun K' hK' => ?_))); simp [pairs, g1, g2, g3, hl']; repeat' (first | (with_reducible refine hK' _ _ ?_; clear hK' K') | (with_reducible refine Ret.use fixed20_ret ?_; try simp [pairs, g1, g2, g3, hl']) | (with_reducible refine Ret.use c1 ?_; try simp [pairs, g1, g2, g3, hl']) | (with_reducible refine Ret.use c2 ?_; try simp [pairs, g1, g2, g3, hl']) | (with_reducible refine Ret.use c3 ?_; try simp [pairs, g1, g2, g3, hl']) | (with_reducible refine Ret.use c4 ?_; try simp [pairs, g1, g2, g3, hl']) | (with_reducible refine Ret.use c5 ?_; try simp [pairs, g1, g2, g3, hl']) | (with_reducible refine Ret.use c6 ?_; try simp [pairs, g1, g2, g3, hl']) | (with_reducible refine Ret.use c7 ?_; try simp [pairs, g1, g2, g3, hl']) | (with_reducible refine Ret.use c8 ?_; try simp [pairs, g1, g2, g3, hl']) | (with_reducible refine Ret.use c9 ?_; try simp [pairs, g1, g2, g3, hl']) | (with_reducible refine And.intro ?_ ?_) | (with_reducible intro hg) | (clear hK' K'; omega)))
        | (with_reducible refine w_cond (fun A B hA hB => ?_); simp [pairs, g1, g2, g3, hl']; repeat' (first | (with_reducible refine hA ?_; clear hA hB A B) | (with_reducible refine hB ?_; clear hA hB A B) | (with_reducible refine And.intro ?_ ?_) | (with_reducible intro hc)))
        | ((fail_if_success (with_reducible refine at_reg 7 ?_)); with_reducible refine awp_seq ?_))
      refine v_draw_perm mixed [] [125, 127, 129, 131, 134, 136, 138, 140] [0, 1, 2, 3, 4, 5, 6, 7, 8, 9, 10, 11, 12, 13, 14, 15, 16, 17, 18, 19, 20, 21, 22, 23, 24, 25, 26, 27, 28, 29, 30, 31, 32, 33, 34, 35, 36, 37, 38, 39, 41, 42, 43, 44, 45, 46, 47, 48, 40, 49, 50, 51, 52] (by kernel_rfl) (fun K hK => ?_)
      simp only [List.filterMap_cons, List.filterMap_nil, List.getElem?_cons_succ, List.getElem?_cons_zero]
      repeat' (first
        | (with_reducible refine awp_skip ?_)
        | (with_reducible refine then_any ?_)
        | (with_reducible refine then_ret ?_)
        | (with_reducible refine then_exit ?_)
        | (with_reducible refine inBlock_normal ?_)
        | (with_reducible refine inBlock_ret ?_)
        | (with_reducible refine inBlock_hit ?_)
        | (with_reducible refine inBlock_miss (by decide) ?_)
        | (with_reducible refine awp_ret ?_)
        | (with_reducible refine awp_exit ?_)
        | (with_reducible refine post_ret ?_)
        | (with_reducible refine post_normal ?_)
        | (with_reducible refine awp_block ?_)
        | (with_reducible refine awp_scope_ret ?_)
        | (with_reducible refine awp_label ?_)
        | (with_reducible refine v_reg [] (fun K hK => ?_))
        | (with_reducible refine v_reg1 [] (fun K hK => ?_))
        | (with_reducible refine v_draw mixed [] [] (by kernel_rfl) (fun K hK => ?_))
        | (with_reducible refine v_draw1 mixed [] [] (by kernel_rfl) (fun K hK => ?_))
        | (with_reducible refine ev_nil (hK _ _ ?_); clear hK K)
        | (with_reducible refine ed_nil (hK _ _ ?_); clear hK K)
        | ((first | with_reducible refine ev_cons (fun K' hK' => ?_) | with_reducible refine ed_cons (fun K' hK' => ?_) | (with_reducible refine ev_id ?_; refine ev_guard rfl (fun K' hK' => ?_)) | (with_reducible refine ed_id ?_; refine ed_guard rfl (fun K' hK' => ?_))); simp [pairs, boxes, Blk.isArr, KeepsBox.refl]; repeat' (first | (with_reducible refine hK' _ _ ?_; clear hK' K') | (with_reducible refine Ret.use fixed20_ret ?_; try simp [pairs, boxes, Blk.isArr, KeepsBox.refl]) | (with_reducible refine Ret.use c1 ?_; try simp [pairs, boxes, Blk.isArr, KeepsBox.refl]) | (with_reducible refine Ret.use c2 ?_; try simp [pairs, boxes, Blk.isArr, KeepsBox.refl]) | (with_reducible refine Ret.use c3 ?_; try simp [pairs, boxes, Blk.isArr, KeepsBox.refl]) | (with_reducible refine Ret.use c4 ?_; try simp [pairs, boxes, Blk.isArr, KeepsBox.refl]) | (with_reducible refine Ret.use c5 ?_; try simp [pairs, boxes, Blk.isArr, KeepsBox.refl]) | (with_reducible refine Ret.use c6 ?_; try simp [pairs, boxes, Blk.isArr, KeepsBox.refl]) | (with_reducible refine Ret.use c7 ?_; try simp [pairs, boxes, Blk.isArr, KeepsBox.refl]) | (with_reducible refine Ret.use c8 ?_; try simp [pairs, boxes, Blk.isArr, KeepsBox.refl]) | (with_reducible refine Ret.use c9 ?_; try simp [pairs, boxes, Blk.isArr, KeepsBox.refl]) | (with_reducible refine And.intro ?_ ?_) | (with_reducible intro hg) | (clear hK' K'; omega)))
        | (with_reducible refine w_cond (fun A B hA hB => ?_); simp [pairs, boxes, Blk.isArr, KeepsBox.refl]; repeat' (first | (with_reducible refine hA ?_; clear hA hB A B) | (with_reducible refine hB ?_; clear hA hB A B) | (with_reducible refine And.intro ?_ ?_) | (with_reducible intro hc)))
        | (with_reducible refine awp_seq ?_))
      exact ⟨by simp, sub_new (by assumption)⟩
    · repeat' (first
        | (with_reducible refine awp_skip ?_)
        | (with_reducible refine then_any ?_)
        | (with_reducible refine then_ret ?_)
        | (with_reducible refine then_exit ?_)
        | (with_reducible refine inBlock_normal ?_)
        | (with_reducible refine inBlock_ret ?_)
        | (with_reducible refine inBlock_hit ?_)
        | (with_reducible refine inBlock_miss (by decide) ?_)
        | (with_reducible refine awp_ret ?_)
        | (with_reducible refine awp_exit ?_)
        | (with_reducible refine post_ret ?_)
        | (with_reducible refine post_normal ?_)
        | (with_reducible refine awp_block ?_)
        | (with_reducible refine awp_scope_ret ?_)
        | (with_reducible refine awp_label ?_)
        | ((fail_if_success (with_reducible refine at_reg 7 ?_)); with_reducible refine v_reg [] (fun K hK => ?_))
        | (with_reducible refine v_reg1 [] (fun K hK => ?_))
        | ((fail_if_success (with_reducible refine at_reg 7 ?_)); with_reducible refine v_draw mixed [] [] (by kernel_rfl) (fun K hK => ?_))
        | (with_reducible refine v_draw1 mixed [] [] (by kernel_rfl) (fun K hK => ?_))
        | (with_reducible refine ev_nil (hK _ _ ?_); clear hK K)
        | (with_reducible refine ed_nil (hK _ _ ?_); clear hK K)
        | ((first | with_reducible refine ev_cons (fun K' hK' => ?_) | with_reducible refine ed_cons (fun K' hK' => ?_) | (with_reducible refine ev_id ?_; refine ev_guard rfl (fun K' hK' => ?_)) | (with_reducible refine ed_id ?_; refine ed_guard rfl (fun K' hK' => ?_))); simp [pairs, g1, g2, g3, g4, hl']; repeat' (first | (with_reducible refine hK' _ _ ?_; clear hK' K') | (with_reducible refine Ret.use fixed20_ret ?_; try simp [pairs, g1, g2, g3, g4, hl']) | (with_reducible refine Ret.use c1 ?_; try simp [pairs, g1, g2, g3, g4, hl']) | (with_reducible refine Ret.use c2 ?_; try simp [pairs, g1, g2, g3, g4, hl']) | (with_reducible refine Ret.use c3 ?_; try simp [pairs, g1, g2, g3, g4, hl']) | (with_reducible refine Ret.use c4 ?_; try simp [pairs, g1, g2, g3, g4, hl']) | (with_reducible refine Ret.use c5 ?_; try simp [pairs, g1, g2, g3, g4, hl']) | (with_reducible refine Ret.use c6 ?_; try simp [pairs, g1, g2, g3, g4, hl']) | (with_reducible refine Ret.use c7 ?_; try simp [pairs, g1, g2, g3, g4, hl']) | (with_reducible refine Ret.use c8 ?_; try simp [pairs, g1, g2, g3, g4, hl']) | (with_reducible refine Ret.use c9 ?_; try simp [pairs, g1, g2, g3, g4, hl']) | (with_reducible refine And.intro ?_ ?_) | (with_reducible intro hg) | (clear hK' K'; omega)))
        | (with_reducible refine w_cond (fun A B hA hB => ?_); simp [pairs, g1, g2, g3, g4, hl']; repeat' (first | (with_reducible refine hA ?_; clear hA hB A B) | (with_reducible refine hB ?_; clear hA hB A B) | (with_reducible refine And.intro ?_ ?_) | (with_reducible intro hc)))
        | ((fail_if_success (with_reducible refine at_reg 7 ?_)); with_reducible refine awp_seq ?_))
      refine v_draw_perm mixed [] [125, 127, 129, 131, 134, 136, 138, 140] [0, 1, 2, 3, 4, 5, 6, 7, 8, 9, 10, 11, 12, 13, 14, 15, 16, 17, 18, 19, 20, 21, 22, 23, 24, 25, 26, 27, 28, 29, 30, 31, 32, 33, 34, 35, 36, 37, 38, 39, 41, 42, 43, 44, 45, 46, 47, 48, 40, 49, 50, 51, 52] (by kernel_rfl) (fun K hK => ?_)
      simp only [List.filterMap_cons, List.filterMap_nil, List.getElem?_cons_succ, List.getElem?_cons_zero]
      repeat' (first
        | (with_reducible refine awp_skip ?_)
        | (with_reducible refine then_any ?_)
        | (with_reducible refine then_ret ?_)
        | (with_reducible refine then_exit ?_)
        | (with_reducible refine inBlock_normal ?_)
        | (with_reducible refine inBlock_ret ?_)
        | (with_reducible refine inBlock_hit ?_)
        | (with_reducible refine inBlock_miss (by decide) ?_)
        | (with_reducible refine awp_ret ?_)
        | (with_reducible refine awp_exit ?_)
        | (with_reducible refine post_ret ?_)
        | (with_reducible refine post_normal ?_)
        | (with_reducible refine awp_block ?_)
        | (with_reducible refine awp_scope_ret ?_)
        | (with_reducible refine awp_label ?_)
        | (with_reducible refine v_reg [] (fun K hK => ?_))
        | (with_reducible refine v_reg1 [] (fun K hK => ?_))
        | (with_reducible refine v_draw mixed [] [] (by kernel_rfl) (fun K hK => ?_))
        | (with_reducible refine v_draw1 mixed [] [] (by kernel_rfl) (fun K hK => ?_))
        | (with_reducible refine ev_nil (hK _ _ ?_); clear hK K)
        | (with_reducible refine ed_nil (hK _ _ ?_); clear hK K)
        | ((first | with_reducible refine ev_cons (fun K' hK' => ?_) | with_reducible refine ed_cons (fun K' hK' => ?_) | (with_reducible refine ev_id ?_; refine ev_guard rfl (fun K' hK' => ?_)) | (with_reducible refine ed_id ?_; refine ed_guard rfl (fun K' hK' => ?_))); simp [pairs, boxes, Blk.isArr, KeepsBox.refl]; repeat' (first | (with_reducible refine hK' _ _ ?_; clear hK' K') | (with_reducible refine Ret.use fixed20_ret ?_; try simp [pairs, boxes, Blk.isArr, KeepsBox.refl]) | (with_reducible refine Ret.use c1 ?_; try simp [pairs, boxes, Blk.isArr, KeepsBox.refl]) | (with_reducible refine Ret.use c2 ?_; try simp [pairs, boxes, Blk.isArr, KeepsBox.refl]) | (with_reducible refine Ret.use c3 ?_; try simp [pairs, boxes, Blk.isArr, KeepsBox.refl]) | (with_reducible refine Ret.use c4 ?_; try simp [pairs, boxes, Blk.isArr, KeepsBox.refl]) | (with_reducible refine Ret.use c5 ?_; try simp [pairs, boxes, Blk.isArr, KeepsBox.refl]) | (with_reducible refine Ret.use c6 ?_; try simp [pairs, boxes, Blk.isArr, KeepsBox.refl]) | (with_reducible refine Ret.use c7 ?_; try simp [pairs, boxes, Blk.isArr, KeepsBox.refl]) | (with_reducible refine Ret.use c8 ?_; try simp [pairs, boxes, Blk.isArr, KeepsBox.refl]) | (with_reducible refine Ret.use c9 ?_; try simp [pairs, boxes, Blk.isArr, KeepsBox.refl]) | (with_reducible refine And.intro ?_ ?_) | (with_reducible intro hg) | (clear hK' K'; omega)))
        | (with_reducible refine w_cond (fun A B hA hB => ?_); simp [pairs, boxes, Blk.isArr, KeepsBox.refl]; repeat' (first | (with_reducible refine hA ?_; clear hA hB A B) | (with_reducible refine hB ?_; clear hA hB A B) | (with_reducible refine And.intro ?_ ?_) | (with_reducible intro hc)))
        | (with_reducible refine awp_seq ?_))
      exact ⟨by simp, sub_new (by assumption)⟩
end Go.Am
