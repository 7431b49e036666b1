/- Contracts and plain laws that the law ArborTrees needs, part 11. -/
import Derived.Test.YtkgcmgbndapjcaaZArborTrees10
namespace Go.Am
open Go Go.Proofs
set_option linter.unusedVariables false
set_option linter.unusedSimpArgs false
variable {w0 : World}
attribute [local irreducible] AWP ACalls
attribute [local congr] acalls_congr
abbrev ifcQ (Q : Nat) : AV := .ifc 111 (.ptr Q 0 0)
theorem swapC_length (l : List (Int × Int)) (cells : List AV) (i k : Nat) : (swapC l cells i k).length = cells.length := by simp [swapC]
set_option maxHeartbeats 2000000 in
theorem up_use {h : Heap} {Q P top j : Nat} {l : List (Int × Int)} {cells : List AV} (hQ : h Q = some (.box [.ref P 0 l.length top])) (hP : h P = some (.arr 2 113 cells top)) (hc : CP l cells) (ht : l.length ≤ top) (hb : top ≤ 1000000)
    (hj : j < l.length) (hu : UpI l l.length j) {K : AV → Heap → Prop}
    (k : ∀ l' cells', l'.Perm l → HeapP l' l'.length → CP l' cells' → cells'.length = cells.length → K (.tup []) (upd h P (some (.arr 2 113 cells' top)))) :
    ACalls Try.prog w0 106 [ifcQ Q, I j] h K := by
  refine (?_ : ACalls Try.prog w0 106 [ifcQ Q, I j] h (fun v h' => v = .tup [] ∧ ∃ l' cells', l'.Perm l ∧ HeapP l' l'.length ∧ CP l' cells' ∧ cells'.length = cells.length ∧ h' = upd h P (some (.arr 2 113 cells' top)))).drop ?_
  rotate_left
  · rintro v h' ⟨rfl, l', cells', a, b, c, d, rfl⟩
    exact ⟨_, .refl _, k l' cells' a b c d⟩
  clear k K
  have hQP : Q ≠ P := fun e => by rw [e, hP] at hQ; cases hQ
  refine w_enter Try.func106 rfl Try.ntmps106 (ts := []) rfl (by simp) (by kernel_rfl) ?_
  repeat' (first
    | (with_reducible refine awp_skip ?_)
    | (with_reducible refine then_any ?_)
    | (with_reducible refine then_ret ?_)
    | (with_reducible refine then_exit ?_)
    | (with_reducible refine inBlock_normal ?_)
    | (with_reducible refine inBlock_ret ?_)
    | (with_reducible refine inBlock_hit ?_)
    | (with_reducible refine inBlock_miss (by decide) ?_)
    | (with_reducible refine awp_ret ?_)
    | (with_reducible refine awp_exit ?_)
    | (with_reducible refine post_ret ?_)
    | (with_reducible refine post_normal ?_)
    | (with_reducible refine awp_block ?_)
    | (with_reducible refine awp_scope_ret ?_)
    | (with_reducible refine awp_label ?_)
    | (with_reducible refine v_reg [] (fun K hK => ?_))
    | (with_reducible refine v_reg1 [] (fun K hK => ?_))
    | (with_reducible refine v_draw mixed [] [] (by kernel_rfl) (fun K hK => ?_))
    | (with_reducible refine v_draw1 mixed [] [] (by kernel_rfl) (fun K hK => ?_))
    | (with_reducible refine ev_nil (hK _ _ ?_); clear hK K)
    | (with_reducible refine ed_nil (hK _ _ ?_); clear hK K)
    | ((first | with_reducible refine ev_cons (fun K' hK' => ?_) | with_reducible refine ed_cons (fun K' hK' => ?_) | (with_reducible refine ev_id ?_; refine ev_guard rfl (fun K' hK' => ?_)) | (with_reducible refine ed_id ?_; refine ed_guard rfl (fun K' hK' => ?_))); simp; repeat' (first | (with_reducible refine hK' _ _ ?_; clear hK' K') | (with_reducible refine And.intro ?_ ?_) | (with_reducible intro hg) | (clear hK' K'; omega)))
    | (with_reducible refine w_cond (fun A B hA hB => ?_); simp; repeat' (first | (with_reducible refine hA ?_; clear hA hB A B) | (with_reducible refine hB ?_; clear hA hB A B) | (with_reducible refine And.intro ?_ ?_) | (with_reducible intro hc)))
    | (with_reducible refine awp_seq ?_))
  refine awp_loop (fun env h' => ∃ (j : Nat) (l' : List (Int × Int)) (cells' : List AV), j < l'.length ∧ l'.Perm l ∧ UpI l' l'.length j ∧ CP l' cells' ∧ cells'.length = cells.length ∧ env 0 = ifcQ Q ∧ env 1 = I j ∧ h' = upd h P (some (.arr 2 113 cells' top))) (fun env _ => natA (env 1)) ?_ ?_
  · exact ⟨j, l, cells, hj, .refl _, hu, hc, rfl, by simp, by simp, by rw [← hP, upd_self]⟩
  clear hu hc hj
  clear j
  rintro env h' ⟨j, l', cells', hj, hp, hu, hc, hcl, h0, h1, rfl⟩
  have hnat : natA (env 1) = j := by simp [h1]
  rw [hnat]; clear hnat
  have hll := hp.length_eq
  have hQ' : (upd h P (some (.arr 2 113 cells' top))) Q = some (.box [.ref P 0 l'.length top]) := by rw [upd_ne _ _ _ hQP, hll]; exact hQ
  obtain ⟨i, hi⟩ : ∃ i, i = (j - 1) / 2 := ⟨_, rfl⟩
  have hq : Int.tdiv ((j : Int) - 1) 2 = (i : Int) := by
    cases j with
    | zero => subst hi; rfl
    | succ j => rw [show ((j + 1 : Nat) : Int) - 1 = (j : Int) by omega, hi, Int.tdiv_eq_ediv_of_nonneg (by omega)]; omega
  by_cases j0 : j = 0
  · subst j0
    have hi0 : i = 0 := by omega
    subst hi0
    repeat' (first
      | (with_reducible refine awp_skip ?_)
      | (with_reducible refine then_any ?_)
      | (with_reducible refine then_ret ?_)
      | (with_reducible refine then_exit ?_)
      | (with_reducible refine inBlock_normal ?_)
      | (with_reducible refine inBlock_ret ?_)
      | (with_reducible refine inBlock_hit ?_)
      | (with_reducible refine inBlock_miss (by decide) ?_)
      | (with_reducible refine awp_ret ?_)
      | (with_reducible refine awp_exit ?_)
      | (with_reducible refine post_ret ?_)
      | (with_reducible refine post_normal ?_)
      | (with_reducible refine awp_block ?_)
      | (with_reducible refine awp_scope_ret ?_)
      | (with_reducible refine awp_label ?_)
      | (with_reducible refine v_reg [] (fun K hK => ?_))
      | (with_reducible refine v_reg1 [] (fun K hK => ?_))
      | (with_reducible refine v_draw mixed [] [] (by kernel_rfl) (fun K hK => ?_))
      | (with_reducible refine v_draw1 mixed [] [] (by kernel_rfl) (fun K hK => ?_))
      | (with_reducible refine ev_nil (hK _ _ ?_); clear hK K)
      | (with_reducible refine ed_nil (hK _ _ ?_); clear hK K)
      | ((first | with_reducible refine ev_cons (fun K' hK' => ?_) | with_reducible refine ed_cons (fun K' hK' => ?_) | (with_reducible refine ev_id ?_; refine ev_guard rfl (fun K' hK' => ?_)) | (with_reducible refine ed_id ?_; refine ed_guard rfl (fun K' hK' => ?_))); simp [h0, h1, hq]; repeat' (first | (with_reducible refine hK' _ _ ?_; clear hK' K') | (with_reducible refine And.intro ?_ ?_) | (with_reducible intro hg) | (clear hK' K'; omega)))
      | (with_reducible refine w_cond (fun A B hA hB => ?_); simp [h0, h1, hq]; repeat' (first | (with_reducible refine hA ?_; clear hA hB A B) | (with_reducible refine hB ?_; clear hA hB A B) | (with_reducible refine And.intro ?_ ?_) | (with_reducible intro hc)))
      | (with_reducible refine awp_seq ?_))
    exact ⟨by simp [resA], l', cells', hp, hu.top, hc, hcl, rfl⟩
  · have hil : i < l'.length := by omega
    have hij : ¬ (i : Int) = j := by omega
    have hij' : ¬ i = j := by omega
    have hless := less_at (w0 := w0) (h := upd h P (some (.arr 2 113 cells' top))) (P := P) (top := top) (i := j) (k := i) (upd_same _ _ _) hc (by omega) hj hil hb
    cases hL : lessP (gP l' j) (gP l' i)
    · rw [hL] at hless
      repeat' (first
        | (with_reducible refine awp_skip ?_)
        | (with_reducible refine then_any ?_)
        | (with_reducible refine then_ret ?_)
        | (with_reducible refine then_exit ?_)
        | (with_reducible refine inBlock_normal ?_)
        | (with_reducible refine inBlock_ret ?_)
        | (with_reducible refine inBlock_hit ?_)
        | (with_reducible refine inBlock_miss (by decide) ?_)
        | (with_reducible refine awp_ret ?_)
        | (with_reducible refine awp_exit ?_)
        | (with_reducible refine post_ret ?_)
        | (with_reducible refine post_normal ?_)
        | (with_reducible refine awp_block ?_)
        | (with_reducible refine awp_scope_ret ?_)
        | (with_reducible refine awp_label ?_)
        | (with_reducible refine v_reg [] (fun K hK => ?_))
        | (with_reducible refine v_reg1 [] (fun K hK => ?_))
        | (with_reducible refine v_draw mixed [] [] (by kernel_rfl) (fun K hK => ?_))
        | (with_reducible refine v_draw1 mixed [] [] (by kernel_rfl) (fun K hK => ?_))
        | (with_reducible refine ev_nil (hK _ _ ?_); clear hK K)
        | (with_reducible refine ed_nil (hK _ _ ?_); clear hK K)
        | ((first | with_reducible refine ev_cons (fun K' hK' => ?_) | with_reducible refine ed_cons (fun K' hK' => ?_) | (with_reducible refine ev_id ?_; refine ev_guard rfl (fun K' hK' => ?_)) | (with_reducible refine ed_id ?_; refine ed_guard rfl (fun K' hK' => ?_))); simp [h0, h1, hq, hij, hij', hQP, Ne.symm hQP, hQ, ← hll]; repeat' (first | (with_reducible refine hK' _ _ ?_; clear hK' K') | ((with_reducible refine RetAt.use hless ?_); try simp [h0, h1, hq, hij, hij', hQP, Ne.symm hQP, hQ, ← hll]) | (with_reducible refine And.intro ?_ ?_) | (with_reducible intro hg) | (clear hK' K'; omega)))
        | (with_reducible refine w_cond (fun A B hA hB => ?_); simp [h0, h1, hq, hij, hij', hQP, Ne.symm hQP, hQ, ← hll]; repeat' (first | (with_reducible refine hA ?_; clear hA hB A B) | (with_reducible refine hB ?_; clear hA hB A B) | (with_reducible refine And.intro ?_ ?_) | (with_reducible intro hc)))
        | (with_reducible refine awp_seq ?_))
      exact ⟨by simp [resA], l', cells', hp, hu.stop (by rw [← hi]; exact hL), hc, hcl, rfl⟩
    · rw [hL] at hless
      have hu2 := hu.step (Nat.le_refl _) hj (by omega) (by rw [← hi]; exact hL)
      rw [← hi] at hu2
      have hc2 := hc.swap hil hj
      repeat' (first
        | (with_reducible refine awp_skip ?_)
        | (with_reducible refine then_any ?_)
        | (with_reducible refine then_ret ?_)
        | (with_reducible refine then_exit ?_)
        | (with_reducible refine inBlock_normal ?_)
        | (with_reducible refine inBlock_ret ?_)
        | (with_reducible refine inBlock_hit ?_)
        | (with_reducible refine inBlock_miss (by decide) ?_)
        | (with_reducible refine awp_ret ?_)
        | (with_reducible refine awp_exit ?_)
        | (with_reducible refine post_ret ?_)
        | (with_reducible refine post_normal ?_)
        | (with_reducible refine awp_block ?_)
        | (with_reducible refine awp_scope_ret ?_)
        | (with_reducible refine awp_label ?_)
        | (with_reducible refine v_reg [] (fun K hK => ?_))
        | (with_reducible refine v_reg1 [] (fun K hK => ?_))
        | (with_reducible refine v_draw mixed [] [] (by kernel_rfl) (fun K hK => ?_))
        | (with_reducible refine v_draw1 mixed [] [] (by kernel_rfl) (fun K hK => ?_))
        | (with_reducible refine ev_nil (hK _ _ ?_); clear hK K)
        | (with_reducible refine ed_nil (hK _ _ ?_); clear hK K)
        | ((first | with_reducible refine ev_cons (fun K' hK' => ?_) | with_reducible refine ed_cons (fun K' hK' => ?_) | (with_reducible refine ev_id ?_; refine ev_guard rfl (fun K' hK' => ?_)) | (with_reducible refine ed_id ?_; refine ed_guard rfl (fun K' hK' => ?_))); simp [h0, h1, hq, hij, hij', hQP, Ne.symm hQP, hQ, ← hll]; repeat' (first | (with_reducible refine hK' _ _ ?_; clear hK' K') | ((with_reducible refine RetAt.use hless ?_); try simp [h0, h1, hq, hij, hij', hQP, Ne.symm hQP, hQ, ← hll]) | ((with_reducible refine swap_at (upd_same _ _ _) hc (by omega) hil hj hb ?_); try simp [h0, h1, hq, hij, hij', hQP, Ne.symm hQP, hQ, ← hll]) | (with_reducible refine And.intro ?_ ?_) | (with_reducible intro hg) | (clear hK' K'; omega)))
        | (with_reducible refine w_cond (fun A B hA hB => ?_); simp [h0, h1, hq, hij, hij', hQP, Ne.symm hQP, hQ, ← hll]; repeat' (first | (with_reducible refine hA ?_; clear hA hB A B) | (with_reducible refine hB ?_; clear hA hB A B) | (with_reducible refine And.intro ?_ ?_) | (with_reducible intro hc)))
        | (with_reducible refine awp_seq ?_))
      exact ⟨⟨i, swapL l' i j, swapC l' cells' i j, by rw [swapL_length]; exact hil, (swapL_perm hil hj).trans hp, by rw [swapL_length]; exact hu2, hc2, by rw [swapC_length]; exact hcl, by simp [h0], by simp, by simp⟩, by simp; omega⟩
set_option maxHeartbeats 4000000 in
theorem down_use {h : Heap} {Q P top n : Nat} {l : List (Int × Int)} {cells : List AV} (hQ : h Q = some (.box [.ref P 0 l.length top])) (hP : h P = some (.arr 2 113 cells top)) (hc : CP l cells) (ht : l.length ≤ top) (hb : top ≤ 1000000)
    (hn : n < l.length) (hu : DnI l n 0) {K : AV → Heap → Prop}
    (k : ∀ v l' cells', l'.Perm l → HeapP l' n → gP l' n = gP l n → CP l' cells' → cells'.length = cells.length → K v (upd h P (some (.arr 2 113 cells' top)))) :
    ACalls Try.prog w0 108 [ifcQ Q, I 0, I n] h K := by
  refine (?_ : ACalls Try.prog w0 108 [ifcQ Q, I 0, I n] h (fun v h' => ∃ l' cells', l'.Perm l ∧ HeapP l' n ∧ gP l' n = gP l n ∧ CP l' cells' ∧ cells'.length = cells.length ∧ h' = upd h P (some (.arr 2 113 cells' top)))).drop ?_
  rotate_left
  · rintro v h' ⟨l', cells', a, b, b', c, d, rfl⟩
    exact ⟨_, .refl _, k v l' cells' a b b' c d⟩
  clear k K
  have hQP : Q ≠ P := fun e => by rw [e, hP] at hQ; cases hQ
  refine w_enter Try.func108 rfl Try.ntmps108 (ts := [6]) rfl (by simp) (by kernel_rfl) ?_
  repeat' (first
    | (with_reducible refine awp_skip ?_)
    | (with_reducible refine then_any ?_)
    | (with_reducible refine then_ret ?_)
    | (with_reducible refine then_exit ?_)
    | (with_reducible refine inBlock_normal ?_)
    | (with_reducible refine inBlock_ret ?_)
    | (with_reducible refine inBlock_hit ?_)
    | (with_reducible refine inBlock_miss (by decide) ?_)
    | (with_reducible refine awp_ret ?_)
    | (with_reducible refine awp_exit ?_)
    | (with_reducible refine post_ret ?_)
    | (with_reducible refine post_normal ?_)
    | (with_reducible refine awp_block ?_)
    | (with_reducible refine awp_scope_ret ?_)
    | (with_reducible refine awp_label ?_)
    | (with_reducible refine v_reg [] (fun K hK => ?_))
    | (with_reducible refine v_reg1 [] (fun K hK => ?_))
    | (with_reducible refine v_draw mixed [] [] (by kernel_rfl) (fun K hK => ?_))
    | (with_reducible refine v_draw1 mixed [] [] (by kernel_rfl) (fun K hK => ?_))
    | (with_reducible refine ev_nil (hK _ _ ?_); clear hK K)
    | (with_reducible refine ed_nil (hK _ _ ?_); clear hK K)
    | ((first | with_reducible refine ev_cons (fun K' hK' => ?_) | with_reducible refine ed_cons (fun K' hK' => ?_) | (with_reducible refine ev_id ?_; refine ev_guard rfl (fun K' hK' => ?_)) | (with_reducible refine ed_id ?_; refine ed_guard rfl (fun K' hK' => ?_))); simp; repeat' (first | (with_reducible refine hK' _ _ ?_; clear hK' K') | (with_reducible refine And.intro ?_ ?_) | (with_reducible intro hg) | (clear hK' K'; omega)))
    | (with_reducible refine w_cond (fun A B hA hB => ?_); simp; repeat' (first | (with_reducible refine hA ?_; clear hA hB A B) | (with_reducible refine hB ?_; clear hA hB A B) | (with_reducible refine And.intro ?_ ?_) | (with_reducible intro hc)))
    | (with_reducible refine awp_seq ?_))
  refine awp_loop (fun env h' => ∃ (i : Nat) (l' : List (Int × Int)) (cells' : List AV), i ≤ n ∧ l'.Perm l ∧ DnI l' n i ∧ gP l' n = gP l n ∧ CP l' cells' ∧ cells'.length = cells.length ∧ env 0 = ifcQ Q ∧ env 1 = I 0 ∧ env 2 = I n ∧ env 7 = I i ∧ h' = upd h P (some (.arr 2 113 cells' top))) (fun env _ => n - natA (env 7)) ?_ ?_
  · exact ⟨0, l, cells, by omega, .refl _, hu, rfl, hc, rfl, by simp, by simp, by simp, by simp, by rw [← hP, upd_self]⟩
  clear hu hc
  rintro env h' ⟨i, l', cells', hi, hp, hu, hgn, hc, hcl, h0, h1, h2, h7, rfl⟩
  have hnat : natA (env 7) = i := by simp [h7]
  rw [hnat]; clear hnat
  have hll := hp.length_eq
  obtain ⟨j1, hj1⟩ : ∃ j, j = 2 * i + 1 := ⟨_, rfl⟩
  obtain ⟨j2, hj2⟩ : ∃ j, j = 2 * i + 2 := ⟨_, rfl⟩
  have hm1 : (2 : Int) * i + 1 = j1 := by omega
  have hm2 : (j1 : Int) + 1 = j2 := by omega
  have hm3 : ¬ (j1 : Int) < 0 := by omega
  by_cases hs0 : n ≤ j1
  · repeat' (first
      | (with_reducible refine awp_skip ?_)
      | (with_reducible refine then_any ?_)
      | (with_reducible refine then_ret ?_)
      | (with_reducible refine then_exit ?_)
      | (with_reducible refine inBlock_normal ?_)
      | (with_reducible refine inBlock_ret ?_)
      | (with_reducible refine inBlock_hit ?_)
      | (with_reducible refine inBlock_miss (by decide) ?_)
      | (with_reducible refine awp_ret ?_)
      | (with_reducible refine awp_exit ?_)
      | (with_reducible refine post_ret ?_)
      | (with_reducible refine post_normal ?_)
      | (with_reducible refine awp_block ?_)
      | (with_reducible refine awp_scope_ret ?_)
      | (with_reducible refine awp_label ?_)
      | (with_reducible refine v_reg [] (fun K hK => ?_))
      | (with_reducible refine v_reg1 [] (fun K hK => ?_))
      | (with_reducible refine v_draw mixed [] [] (by kernel_rfl) (fun K hK => ?_))
      | (with_reducible refine v_draw1 mixed [] [] (by kernel_rfl) (fun K hK => ?_))
      | (with_reducible refine ev_nil (hK _ _ ?_); clear hK K)
      | (with_reducible refine ed_nil (hK _ _ ?_); clear hK K)
      | ((first | with_reducible refine ev_cons (fun K' hK' => ?_) | with_reducible refine ed_cons (fun K' hK' => ?_) | (with_reducible refine ev_id ?_; refine ev_guard rfl (fun K' hK' => ?_)) | (with_reducible refine ed_id ?_; refine ed_guard rfl (fun K' hK' => ?_))); simp [h0, h1, h2, h7, hm1, hs0]; repeat' (first | (with_reducible refine hK' _ _ ?_; clear hK' K') | (with_reducible refine And.intro ?_ ?_) | (with_reducible intro hg) | (clear hK' K'; omega)))
      | (with_reducible refine w_cond (fun A B hA hB => ?_); simp [h0, h1, h2, h7, hm1, hs0]; repeat' (first | (with_reducible refine hA ?_; clear hA hB A B) | (with_reducible refine hB ?_; clear hA hB A B) | (with_reducible refine And.intro ?_ ?_) | (with_reducible intro hc)))
      | (with_reducible refine awp_seq ?_))
    exact ⟨l', cells', hp, hu.stop0 (by omega), hgn, hc, hcl, rfl⟩
  have hil : i < l'.length := by omega
  have hj1l : j1 < l'.length := by omega
  have hcase : ∀ j, (j = j1 ∨ j = j2) → j < n → (∀ k, k < n → (k = 2 * i + 1 ∨ k = 2 * i + 2) → leP (gP l' j) (gP l' k)) →
      (lessP (gP l' j) (gP l' i) = false → HeapP l' n) ∧ (lessP (gP l' j) (gP l' i) = true → DnI (swapL l' i j) n j ∧ gP (swapL l' i j) n = gP l n) := by
    intro j hj hjn hmin
    refine ⟨fun h => hu.stop (by omega) hmin h, fun h => ⟨hu.step (by omega) (by omega) hjn hmin h, ?_⟩⟩
    rw [gP_swap hil (by omega), if_neg (by omega), if_neg (by omega)]
    exact hgn
  have hl1 := less_at (w0 := w0) (h := upd h P (some (.arr 2 113 cells' top))) (P := P) (top := top) (i := j1) (k := i) (upd_same _ _ _) hc (by omega) hj1l hil hb
  by_cases h2n : j2 < n
  · have hj2l : j2 < l'.length := by omega
    have hl2 := less_at (w0 := w0) (h := upd h P (some (.arr 2 113 cells' top))) (P := P) (top := top) (i := j2) (k := i) (upd_same _ _ _) hc (by omega) hj2l hil hb
    have hl3 := less_at (w0 := w0) (h := upd h P (some (.arr 2 113 cells' top))) (P := P) (top := top) (i := j2) (k := j1) (upd_same _ _ _) hc (by omega) hj2l hj1l hb
    cases hL3 : lessP (gP l' j2) (gP l' j1)
    · rw [hL3] at hl3
      obtain ⟨q1, q2⟩ := hcase j1 (.inl rfl) (by omega) (fun k hk hk' => by
        rcases hk' with e | e
        · rw [e, ← hj1]; exact leP_refl _
        · rw [e, ← hj2]; exact hL3)
      cases hL : lessP (gP l' j1) (gP l' i)
      · rw [hL] at hl1
        repeat' (first
          | (with_reducible refine awp_skip ?_)
          | (with_reducible refine then_any ?_)
          | (with_reducible refine then_ret ?_)
          | (with_reducible refine then_exit ?_)
          | (with_reducible refine inBlock_normal ?_)
          | (with_reducible refine inBlock_ret ?_)
          | (with_reducible refine inBlock_hit ?_)
          | (with_reducible refine inBlock_miss (by decide) ?_)
          | (with_reducible refine awp_ret ?_)
          | (with_reducible refine awp_exit ?_)
          | (with_reducible refine post_ret ?_)
          | (with_reducible refine post_normal ?_)
          | (with_reducible refine awp_block ?_)
          | (with_reducible refine awp_scope_ret ?_)
          | (with_reducible refine awp_label ?_)
          | (with_reducible refine v_reg [] (fun K hK => ?_))
          | (with_reducible refine v_reg1 [] (fun K hK => ?_))
          | (with_reducible refine v_draw mixed [] [] (by kernel_rfl) (fun K hK => ?_))
          | (with_reducible refine v_draw1 mixed [] [] (by kernel_rfl) (fun K hK => ?_))
          | (with_reducible refine ev_nil (hK _ _ ?_); clear hK K)
          | (with_reducible refine ed_nil (hK _ _ ?_); clear hK K)
          | ((first | with_reducible refine ev_cons (fun K' hK' => ?_) | with_reducible refine ed_cons (fun K' hK' => ?_) | (with_reducible refine ev_id ?_; refine ev_guard rfl (fun K' hK' => ?_)) | (with_reducible refine ed_id ?_; refine ed_guard rfl (fun K' hK' => ?_))); simp [h0, h1, h2, h7, hm1, hm2, hm3, hs0, h2n, hQP, Ne.symm hQP, hQ, ← hll]; repeat' (first | (with_reducible refine hK' _ _ ?_; clear hK' K') | ((with_reducible refine RetAt.use hl1 ?_); try simp [h0, h1, h2, h7, hm1, hm2, hm3, hs0, h2n, hQP, Ne.symm hQP, hQ, ← hll]) | ((with_reducible refine RetAt.use hl3 ?_); try simp [h0, h1, h2, h7, hm1, hm2, hm3, hs0, h2n, hQP, Ne.symm hQP, hQ, ← hll]) | (with_reducible refine And.intro ?_ ?_) | (with_reducible intro hg) | (clear hK' K'; omega)))
          | (with_reducible refine w_cond (fun A B hA hB => ?_); simp [h0, h1, h2, h7, hm1, hm2, hm3, hs0, h2n, hQP, Ne.symm hQP, hQ, ← hll]; repeat' (first | (with_reducible refine hA ?_; clear hA hB A B) | (with_reducible refine hB ?_; clear hA hB A B) | (with_reducible refine And.intro ?_ ?_) | (with_reducible intro hc)))
          | (with_reducible refine awp_seq ?_))
        exact ⟨l', cells', hp, q1 hL, hgn, hc, hcl, rfl⟩
      · rw [hL] at hl1
        obtain ⟨q3, q4⟩ := q2 hL
        repeat' (first
          | (with_reducible refine awp_skip ?_)
          | (with_reducible refine then_any ?_)
          | (with_reducible refine then_ret ?_)
          | (with_reducible refine then_exit ?_)
          | (with_reducible refine inBlock_normal ?_)
          | (with_reducible refine inBlock_ret ?_)
          | (with_reducible refine inBlock_hit ?_)
          | (with_reducible refine inBlock_miss (by decide) ?_)
          | (with_reducible refine awp_ret ?_)
          | (with_reducible refine awp_exit ?_)
          | (with_reducible refine post_ret ?_)
          | (with_reducible refine post_normal ?_)
          | (with_reducible refine awp_block ?_)
          | (with_reducible refine awp_scope_ret ?_)
          | (with_reducible refine awp_label ?_)
          | (with_reducible refine v_reg [] (fun K hK => ?_))
          | (with_reducible refine v_reg1 [] (fun K hK => ?_))
          | (with_reducible refine v_draw mixed [] [] (by kernel_rfl) (fun K hK => ?_))
          | (with_reducible refine v_draw1 mixed [] [] (by kernel_rfl) (fun K hK => ?_))
          | (with_reducible refine ev_nil (hK _ _ ?_); clear hK K)
          | (with_reducible refine ed_nil (hK _ _ ?_); clear hK K)
          | ((first | with_reducible refine ev_cons (fun K' hK' => ?_) | with_reducible refine ed_cons (fun K' hK' => ?_) | (with_reducible refine ev_id ?_; refine ev_guard rfl (fun K' hK' => ?_)) | (with_reducible refine ed_id ?_; refine ed_guard rfl (fun K' hK' => ?_))); simp [h0, h1, h2, h7, hm1, hm2, hm3, hs0, h2n, hQP, Ne.symm hQP, hQ, ← hll]; repeat' (first | (with_reducible refine hK' _ _ ?_; clear hK' K') | ((with_reducible refine RetAt.use hl1 ?_); try simp [h0, h1, h2, h7, hm1, hm2, hm3, hs0, h2n, hQP, Ne.symm hQP, hQ, ← hll]) | ((with_reducible refine RetAt.use hl3 ?_); try simp [h0, h1, h2, h7, hm1, hm2, hm3, hs0, h2n, hQP, Ne.symm hQP, hQ, ← hll]) | ((with_reducible refine swap_at (upd_same _ _ _) hc (by omega) hil hj1l hb ?_); try simp [h0, h1, h2, h7, hm1, hm2, hm3, hs0, h2n, hQP, Ne.symm hQP, hQ, ← hll]) | (with_reducible refine And.intro ?_ ?_) | (with_reducible intro hg) | (clear hK' K'; omega)))
          | (with_reducible refine w_cond (fun A B hA hB => ?_); simp [h0, h1, h2, h7, hm1, hm2, hm3, hs0, h2n, hQP, Ne.symm hQP, hQ, ← hll]; repeat' (first | (with_reducible refine hA ?_; clear hA hB A B) | (with_reducible refine hB ?_; clear hA hB A B) | (with_reducible refine And.intro ?_ ?_) | (with_reducible intro hc)))
          | (with_reducible refine awp_seq ?_))
        exact ⟨⟨j1, swapL l' i j1, swapC l' cells' i j1, by omega, (swapL_perm hil hj1l).trans hp, q3, q4, hc.swap hil hj1l, by rw [swapC_length]; exact hcl, by simp [h0], by simp [h1], by simp [h2], by simp, by simp⟩, by simp; omega⟩
    · rw [hL3] at hl3
      obtain ⟨q1, q2⟩ := hcase j2 (.inr rfl) (by omega) (fun k hk hk' => by
        rcases hk' with e | e
        · rw [e, ← hj1]; exact leP_of_less hL3
        · rw [e, ← hj2]; exact leP_refl _)
      cases hL : lessP (gP l' j2) (gP l' i)
      · rw [hL] at hl2
        repeat' (first
          | (with_reducible refine awp_skip ?_)
          | (with_reducible refine then_any ?_)
          | (with_reducible refine then_ret ?_)
          | (with_reducible refine then_exit ?_)
          | (with_reducible refine inBlock_normal ?_)
          | (with_reducible refine inBlock_ret ?_)
          | (with_reducible refine inBlock_hit ?_)
          | (with_reducible refine inBlock_miss (by decide) ?_)
          | (with_reducible refine awp_ret ?_)
          | (with_reducible refine awp_exit ?_)
          | (with_reducible refine post_ret ?_)
          | (with_reducible refine post_normal ?_)
          | (with_reducible refine awp_block ?_)
          | (with_reducible refine awp_scope_ret ?_)
          | (with_reducible refine awp_label ?_)
          | (with_reducible refine v_reg [] (fun K hK => ?_))
          | (with_reducible refine v_reg1 [] (fun K hK => ?_))
          | (with_reducible refine v_draw mixed [] [] (by kernel_rfl) (fun K hK => ?_))
          | (with_reducible refine v_draw1 mixed [] [] (by kernel_rfl) (fun K hK => ?_))
          | (with_reducible refine ev_nil (hK _ _ ?_); clear hK K)
          | (with_reducible refine ed_nil (hK _ _ ?_); clear hK K)
          | ((first | with_reducible refine ev_cons (fun K' hK' => ?_) | with_reducible refine ed_cons (fun K' hK' => ?_) | (with_reducible refine ev_id ?_; refine ev_guard rfl (fun K' hK' => ?_)) | (with_reducible refine ed_id ?_; refine ed_guard rfl (fun K' hK' => ?_))); simp [h0, h1, h2, h7, hm1, hm2, hm3, hs0, h2n, hQP, Ne.symm hQP, hQ, ← hll]; repeat' (first | (with_reducible refine hK' _ _ ?_; clear hK' K') | ((with_reducible refine RetAt.use hl2 ?_); try simp [h0, h1, h2, h7, hm1, hm2, hm3, hs0, h2n, hQP, Ne.symm hQP, hQ, ← hll]) | ((with_reducible refine RetAt.use hl3 ?_); try simp [h0, h1, h2, h7, hm1, hm2, hm3, hs0, h2n, hQP, Ne.symm hQP, hQ, ← hll]) | (with_reducible refine And.intro ?_ ?_) | (with_reducible intro hg) | (clear hK' K'; omega)))
          | (with_reducible refine w_cond (fun A B hA hB => ?_); simp [h0, h1, h2, h7, hm1, hm2, hm3, hs0, h2n, hQP, Ne.symm hQP, hQ, ← hll]; repeat' (first | (with_reducible refine hA ?_; clear hA hB A B) | (with_reducible refine hB ?_; clear hA hB A B) | (with_reducible refine And.intro ?_ ?_) | (with_reducible intro hc)))
          | (with_reducible refine awp_seq ?_))
        exact ⟨l', cells', hp, q1 hL, hgn, hc, hcl, rfl⟩
      · rw [hL] at hl2
        obtain ⟨q3, q4⟩ := q2 hL
        repeat' (first
          | (with_reducible refine awp_skip ?_)
          | (with_reducible refine then_any ?_)
          | (with_reducible refine then_ret ?_)
          | (with_reducible refine then_exit ?_)
          | (with_reducible refine inBlock_normal ?_)
          | (with_reducible refine inBlock_ret ?_)
          | (with_reducible refine inBlock_hit ?_)
          | (with_reducible refine inBlock_miss (by decide) ?_)
          | (with_reducible refine awp_ret ?_)
          | (with_reducible refine awp_exit ?_)
          | (with_reducible refine post_ret ?_)
          | (with_reducible refine post_normal ?_)
          | (with_reducible refine awp_block ?_)
          | (with_reducible refine awp_scope_ret ?_)
          | (with_reducible refine awp_label ?_)
          | (with_reducible refine v_reg [] (fun K hK => ?_))
          | (with_reducible refine v_reg1 [] (fun K hK => ?_))
          | (with_reducible refine v_draw mixed [] [] (by kernel_rfl) (fun K hK => ?_))
          | (with_reducible refine v_draw1 mixed [] [] (by kernel_rfl) (fun K hK => ?_))
          | (with_reducible refine ev_nil (hK _ _ ?_); clear hK K)
          | (with_reducible refine ed_nil (hK _ _ ?_); clear hK K)
          | ((first | with_reducible refine ev_cons (fun K' hK' => ?_) | with_reducible refine ed_cons (fun K' hK' => ?_) | (with_reducible refine ev_id ?_; refine ev_guard rfl (fun K' hK' => ?_)) | (with_reducible refine ed_id ?_; refine ed_guard rfl (fun K' hK' => ?_))); simp [h0, h1, h2, h7, hm1, hm2, hm3, hs0, h2n, hQP, Ne.symm hQP, hQ, ← hll]; repeat' (first | (with_reducible refine hK' _ _ ?_; clear hK' K') | ((with_reducible refine RetAt.use hl2 ?_); try simp [h0, h1, h2, h7, hm1, hm2, hm3, hs0, h2n, hQP, Ne.symm hQP, hQ, ← hll]) | ((with_reducible refine RetAt.use hl3 ?_); try simp [h0, h1, h2, h7, hm1, hm2, hm3, hs0, h2n, hQP, Ne.symm hQP, hQ, ← hll]) | ((with_reducible refine swap_at (upd_same _ _ _) hc (by omega) hil hj2l hb ?_); try simp [h0, h1, h2, h7, hm1, hm2, hm3, hs0, h2n, hQP, Ne.symm hQP, hQ, ← hll]) | (with_reducible refine And.intro ?_ ?_) | (with_reducible intro hg) | (clear hK' K'; omega)))
          | (with_reducible refine w_cond (fun A B hA hB => ?_); simp [h0, h1, h2, h7, hm1, hm2, hm3, hs0, h2n, hQP, Ne.symm hQP, hQ, ← hll]; repeat' (first | (with_reducible refine hA ?_; clear hA hB A B) | (with_reducible refine hB ?_; clear hA hB A B) | (with_reducible refine And.intro ?_ ?_) | (with_reducible intro hc)))
          | (with_reducible refine awp_seq ?_))
        exact ⟨⟨j2, swapL l' i j2, swapC l' cells' i j2, by omega, (swapL_perm hil hj2l).trans hp, q3, q4, hc.swap hil hj2l, by rw [swapC_length]; exact hcl, by simp [h0], by simp [h1], by simp [h2], by simp, by simp⟩, by simp; omega⟩
  · obtain ⟨q1, q2⟩ := hcase j1 (.inl rfl) (by omega) (fun k hk hk' => by
      have e : k = j1 := by omega
      rw [e]; exact leP_refl _)
    have h2n' : ¬ (j2 : Int) < n := by omega
    cases hL : lessP (gP l' j1) (gP l' i)
    · rw [hL] at hl1
      repeat' (first
        | (with_reducible refine awp_skip ?_)
        | (with_reducible refine then_any ?_)
        | (with_reducible refine then_ret ?_)
        | (with_reducible refine then_exit ?_)
        | (with_reducible refine inBlock_normal ?_)
        | (with_reducible refine inBlock_ret ?_)
        | (with_reducible refine inBlock_hit ?_)
        | (with_reducible refine inBlock_miss (by decide) ?_)
        | (with_reducible refine awp_ret ?_)
        | (with_reducible refine awp_exit ?_)
        | (with_reducible refine post_ret ?_)
        | (with_reducible refine post_normal ?_)
        | (with_reducible refine awp_block ?_)
        | (with_reducible refine awp_scope_ret ?_)
        | (with_reducible refine awp_label ?_)
        | (with_reducible refine v_reg [] (fun K hK => ?_))
        | (with_reducible refine v_reg1 [] (fun K hK => ?_))
        | (with_reducible refine v_draw mixed [] [] (by kernel_rfl) (fun K hK => ?_))
        | (with_reducible refine v_draw1 mixed [] [] (by kernel_rfl) (fun K hK => ?_))
        | (with_reducible refine ev_nil (hK _ _ ?_); clear hK K)
        | (with_reducible refine ed_nil (hK _ _ ?_); clear hK K)
        | ((first | with_reducible refine ev_cons (fun K' hK' => ?_) | with_reducible refine ed_cons (fun K' hK' => ?_) | (with_reducible refine ev_id ?_; refine ev_guard rfl (fun K' hK' => ?_)) | (with_reducible refine ed_id ?_; refine ed_guard rfl (fun K' hK' => ?_))); simp [h0, h1, h2, h7, hm1, hm2, hm3, hs0, h2n, h2n', hQP, Ne.symm hQP, hQ, ← hll]; repeat' (first | (with_reducible refine hK' _ _ ?_; clear hK' K') | ((with_reducible refine RetAt.use hl1 ?_); try simp [h0, h1, h2, h7, hm1, hm2, hm3, hs0, h2n, h2n', hQP, Ne.symm hQP, hQ, ← hll]) | (with_reducible refine And.intro ?_ ?_) | (with_reducible intro hg) | (clear hK' K'; omega)))
        | (with_reducible refine w_cond (fun A B hA hB => ?_); simp [h0, h1, h2, h7, hm1, hm2, hm3, hs0, h2n, h2n', hQP, Ne.symm hQP, hQ, ← hll]; repeat' (first | (with_reducible refine hA ?_; clear hA hB A B) | (with_reducible refine hB ?_; clear hA hB A B) | (with_reducible refine And.intro ?_ ?_) | (with_reducible intro hc)))
        | (with_reducible refine awp_seq ?_))
      exact ⟨l', cells', hp, q1 hL, hgn, hc, hcl, rfl⟩
    · rw [hL] at hl1
      obtain ⟨q3, q4⟩ := q2 hL
      repeat' (first
        | (with_reducible refine awp_skip ?_)
        | (with_reducible refine then_any ?_)
        | (with_reducible refine then_ret ?_)
        | (with_reducible refine then_exit ?_)
        | (with_reducible refine inBlock_normal ?_)
        | (with_reducible refine inBlock_ret ?_)
        | (with_reducible refine inBlock_hit ?_)
        | (with_reducible refine inBlock_miss (by decide) ?_)
        | (with_reducible refine awp_ret ?_)
        | (with_reducible refine awp_exit ?_)
        | (with_reducible refine post_ret ?_)
        | (with_reducible refine post_normal ?_)
        | (with_reducible refine awp_block ?_)
        | (with_reducible refine awp_scope_ret ?_)
        | (with_reducible refine awp_label ?_)
        | (with_reducible refine v_reg [] (fun K hK => ?_))
        | (with_reducible refine v_reg1 [] (fun K hK => ?_))
        | (with_reducible refine v_draw mixed [] [] (by kernel_rfl) (fun K hK => ?_))
        | (with_reducible refine v_draw1 mixed [] [] (by kernel_rfl) (fun K hK => ?_))
        | (with_reducible refine ev_nil (hK _ _ ?_); clear hK K)
        | (with_reducible refine ed_nil (hK _ _ ?_); clear hK K)
        | ((first | with_reducible refine ev_cons (fun K' hK' => ?_) | with_reducible refine ed_cons (fun K' hK' => ?_) | (with_reducible refine ev_id ?_; refine ev_guard rfl (fun K' hK' => ?_)) | (with_reducible refine ed_id ?_; refine ed_guard rfl (fun K' hK' => ?_))); simp [h0, h1, h2, h7, hm1, hm2, hm3, hs0, h2n, h2n', hQP, Ne.symm hQP, hQ, ← hll]; repeat' (first | (with_reducible refine hK' _ _ ?_; clear hK' K') | ((with_reducible refine RetAt.use hl1 ?_); try simp [h0, h1, h2, h7, hm1, hm2, hm3, hs0, h2n, h2n', hQP, Ne.symm hQP, hQ, ← hll]) | ((with_reducible refine swap_at (upd_same _ _ _) hc (by omega) hil hj1l hb ?_); try simp [h0, h1, h2, h7, hm1, hm2, hm3, hs0, h2n, h2n', hQP, Ne.symm hQP, hQ, ← hll]) | (with_reducible refine And.intro ?_ ?_) | (with_reducible intro hg) | (clear hK' K'; omega)))
        | (with_reducible refine w_cond (fun A B hA hB => ?_); simp [h0, h1, h2, h7, hm1, hm2, hm3, hs0, h2n, h2n', hQP, Ne.symm hQP, hQ, ← hll]; repeat' (first | (with_reducible refine hA ?_; clear hA hB A B) | (with_reducible refine hB ?_; clear hA hB A B) | (with_reducible refine And.intro ?_ ?_) | (with_reducible intro hc)))
        | (with_reducible refine awp_seq ?_))
      exact ⟨⟨j1, swapL l' i j1, swapC l' cells' i j1, by omega, (swapL_perm hil hj1l).trans hp, q3, q4, hc.swap hil hj1l, by rw [swapC_length]; exact hcl, by simp [h0], by simp [h1], by simp [h2], by simp, by simp⟩, by simp; omega⟩
end Go.Am
namespace Go.Am
open Go Go.Proofs
set_option linter.unusedVariables false
set_option linter.unusedSimpArgs false
variable {w0 : World}
attribute [local irreducible] AWP ACalls
attribute [local congr] acalls_congr
structure QR (H h : Heap) (Q P : Nat) (l : List (Int × Int)) (top : Nat) (cells : List AV) : Prop where
  nP : H P = none
  hQ : h Q = some (.box [.ref P 0 l.length top])
  hP : h P = some (.arr 2 113 cells top)
  cp : CP l cells
  le : l.length ≤ top
  len : cells.length = top * 2
  bd : top ≤ 8192
structure QS (H h : Heap) (Q P : Nat) (l : List (Int × Int)) : Prop where
  sub : Sub H h
  nQ : H Q = none
  heap : HeapP l l.length
  st : (l = [] ∧ h Q = some (.box [.sc (.slice none 0 0)])) ∨ ∃ top cells, QR H h Q P l top cells
theorem pairsPush_use {H h : Heap} {Q P : Nat} {l : List (Int × Int)} {a b : Int} (qs : QS H h Q P l) (hl : l.length ≤ 4096) {K : AV → Heap → Prop}
    (k : ∀ P' cells h', Sub H h' → QR H h' Q P' (l ++ [(a, b)]) (l.length + 1) cells → K (.tup []) h') :
    ACalls Try.prog w0 138 [.ptr Q 0 0, .ifc 113 (.agg [I a, I b])] h K := by
  refine (?_ : ACalls Try.prog w0 138 [.ptr Q 0 0, .ifc 113 (.agg [I a, I b])] h (fun v h' => v = .tup [] ∧ ∃ P' cells, Sub H h' ∧ QR H h' Q P' (l ++ [(a, b)]) (l.length + 1) cells)).drop ?_
  rotate_left
  · rintro v h' ⟨rfl, P', cells, s, q⟩
    exact ⟨_, .refl _, k P' cells h' s q⟩
  clear k K
  have hflat := CP.flat (l ++ [(a, b)])
  have hlen := pairs_len (l ++ [(a, b)])
  rw [← CP.push (a, b) l] at hflat hlen
  rcases qs.st with ⟨rfl, hQ⟩ | ⟨top, cells, q⟩
  · refine w_enter Try.func138 rfl Try.ntmps138 (ts := []) rfl (by simp) (by kernel_rfl) ?_
    repeat' (first
      | (with_reducible refine awp_skip ?_)
      | (with_reducible refine then_any ?_)
      | (with_reducible refine then_ret ?_)
      | (with_reducible refine then_exit ?_)
      | (with_reducible refine inBlock_normal ?_)
      | (with_reducible refine inBlock_ret ?_)
      | (with_reducible refine inBlock_hit ?_)
      | (with_reducible refine inBlock_miss (by decide) ?_)
      | (with_reducible refine awp_ret ?_)
      | (with_reducible refine awp_exit ?_)
      | (with_reducible refine post_ret ?_)
      | (with_reducible refine post_normal ?_)
      | (with_reducible refine awp_block ?_)
      | (with_reducible refine awp_scope_ret ?_)
      | (with_reducible refine awp_label ?_)
      | (with_reducible refine v_reg [] (fun K hK => ?_))
      | (with_reducible refine v_reg1 [] (fun K hK => ?_))
      | (with_reducible refine v_draw mixed [] [] (by kernel_rfl) (fun K hK => ?_))
      | (with_reducible refine v_draw1 mixed [] [] (by kernel_rfl) (fun K hK => ?_))
      | (with_reducible refine ev_nil (hK _ _ ?_); clear hK K)
      | (with_reducible refine ed_nil (hK _ _ ?_); clear hK K)
      | ((first | with_reducible refine ev_cons (fun K' hK' => ?_) | with_reducible refine ed_cons (fun K' hK' => ?_) | (with_reducible refine ev_id ?_; refine ev_guard rfl (fun K' hK' => ?_)) | (with_reducible refine ed_id ?_; refine ed_guard rfl (fun K' hK' => ?_))); simp [hQ]; repeat' (first | (with_reducible refine hK' _ _ ?_; clear hK' K') | (with_reducible refine And.intro ?_ ?_) | (with_reducible intro hg) | (clear hK' K'; omega)))
      | (with_reducible refine w_cond (fun A B hA hB => ?_); simp [hQ]; repeat' (first | (with_reducible refine hA ?_; clear hA hB A B) | (with_reducible refine hB ?_; clear hA hB A B) | (with_reducible refine And.intro ?_ ?_) | (with_reducible intro hc)))
      | (with_reducible refine awp_seq ?_))
    rename_i P'
    have hQP : Q ≠ P' := fun e => by rw [e, hg] at hQ; cases hQ
    simp [hQP, hQ]
    with_reducible refine hK' _ _ ?_
    clear hK' K'
    repeat' (first
      | (with_reducible refine awp_skip ?_)
      | (with_reducible refine then_any ?_)
      | (with_reducible refine then_ret ?_)
      | (with_reducible refine then_exit ?_)
      | (with_reducible refine inBlock_normal ?_)
      | (with_reducible refine inBlock_ret ?_)
      | (with_reducible refine inBlock_hit ?_)
      | (with_reducible refine inBlock_miss (by decide) ?_)
      | (with_reducible refine awp_ret ?_)
      | (with_reducible refine awp_exit ?_)
      | (with_reducible refine post_ret ?_)
      | (with_reducible refine post_normal ?_)
      | (with_reducible refine awp_block ?_)
      | (with_reducible refine awp_scope_ret ?_)
      | (with_reducible refine awp_label ?_)
      | (with_reducible refine v_reg [] (fun K hK => ?_))
      | (with_reducible refine v_reg1 [] (fun K hK => ?_))
      | (with_reducible refine v_draw mixed [] [] (by kernel_rfl) (fun K hK => ?_))
      | (with_reducible refine v_draw1 mixed [] [] (by kernel_rfl) (fun K hK => ?_))
      | (with_reducible refine ev_nil (hK _ _ ?_); clear hK K)
      | (with_reducible refine ed_nil (hK _ _ ?_); clear hK K)
      | ((first | with_reducible refine ev_cons (fun K' hK' => ?_) | with_reducible refine ed_cons (fun K' hK' => ?_) | (with_reducible refine ev_id ?_; refine ev_guard rfl (fun K' hK' => ?_)) | (with_reducible refine ed_id ?_; refine ed_guard rfl (fun K' hK' => ?_))); simp; repeat' (first | (with_reducible refine hK' _ _ ?_; clear hK' K') | (with_reducible refine And.intro ?_ ?_) | (with_reducible intro hg) | (clear hK' K'; omega)))
      | (with_reducible refine w_cond (fun A B hA hB => ?_); simp; repeat' (first | (with_reducible refine hA ?_; clear hA hB A B) | (with_reducible refine hB ?_; clear hA hB A B) | (with_reducible refine And.intro ?_ ?_) | (with_reducible intro hc)))
      | (with_reducible refine awp_seq ?_))
    refine ⟨by simp [resA], P', _, (qs.sub.upd (sub_free qs.sub hg) _).upd qs.nQ _, ⟨sub_free qs.sub hg, by rw [upd_same]; rfl, by rw [upd_ne _ _ _ (Ne.symm hQP), upd_same]; rfl, by simpa using hflat, by simp, by simp, by simp⟩⟩
  · have hQ := q.hQ
    have hP := q.hP
    have hQP : Q ≠ P := fun e => by rw [e, hP] at hQ; cases hQ
    have hclen := q.len
    have hle := q.le
    have htk := q.cp.take
    refine w_enter Try.func138 rfl Try.ntmps138 (ts := []) rfl (by simp) (by kernel_rfl) ?_
    by_cases hf : l.length = top
    · subst hf
      rw [List.take_of_length_le (by omega)] at htk
      repeat' (first
        | (with_reducible refine awp_skip ?_)
        | (with_reducible refine then_any ?_)
        | (with_reducible refine then_ret ?_)
        | (with_reducible refine then_exit ?_)
        | (with_reducible refine inBlock_normal ?_)
        | (with_reducible refine inBlock_ret ?_)
        | (with_reducible refine inBlock_hit ?_)
        | (with_reducible refine inBlock_miss (by decide) ?_)
        | (with_reducible refine awp_ret ?_)
        | (with_reducible refine awp_exit ?_)
        | (with_reducible refine post_ret ?_)
        | (with_reducible refine post_normal ?_)
        | (with_reducible refine awp_block ?_)
        | (with_reducible refine awp_scope_ret ?_)
        | (with_reducible refine awp_label ?_)
        | (with_reducible refine v_reg [] (fun K hK => ?_))
        | (with_reducible refine v_reg1 [] (fun K hK => ?_))
        | (with_reducible refine v_draw mixed [] [] (by kernel_rfl) (fun K hK => ?_))
        | (with_reducible refine v_draw1 mixed [] [] (by kernel_rfl) (fun K hK => ?_))
        | (with_reducible refine ev_nil (hK _ _ ?_); clear hK K)
        | (with_reducible refine ed_nil (hK _ _ ?_); clear hK K)
        | ((first | with_reducible refine ev_cons (fun K' hK' => ?_) | with_reducible refine ed_cons (fun K' hK' => ?_) | (with_reducible refine ev_id ?_; refine ev_guard rfl (fun K' hK' => ?_)) | (with_reducible refine ed_id ?_; refine ed_guard rfl (fun K' hK' => ?_))); simp [hQ, hP, hQP, Ne.symm hQP]; repeat' (first | (with_reducible refine hK' _ _ ?_; clear hK' K') | (with_reducible refine And.intro ?_ ?_) | (with_reducible intro hg) | (clear hK' K'; omega)))
        | (with_reducible refine w_cond (fun A B hA hB => ?_); simp [hQ, hP, hQP, Ne.symm hQP]; repeat' (first | (with_reducible refine hA ?_; clear hA hB A B) | (with_reducible refine hB ?_; clear hA hB A B) | (with_reducible refine And.intro ?_ ?_) | (with_reducible intro hc)))
        | (with_reducible refine awp_seq ?_))
      refine ⟨by simp [resA], P, _, (qs.sub.upd q.nP _).upd qs.nQ _, ⟨q.nP, by rw [upd_same]; simp, by rw [upd_ne _ _ _ (Ne.symm hQP), upd_same], by rw [htk]; exact hflat, by simp, by rw [htk, hlen]; simp, by omega⟩⟩
    · repeat' (first
        | (with_reducible refine awp_skip ?_)
        | (with_reducible refine then_any ?_)
        | (with_reducible refine then_ret ?_)
        | (with_reducible refine then_exit ?_)
        | (with_reducible refine inBlock_normal ?_)
        | (with_reducible refine inBlock_ret ?_)
        | (with_reducible refine inBlock_hit ?_)
        | (with_reducible refine inBlock_miss (by decide) ?_)
        | (with_reducible refine awp_ret ?_)
        | (with_reducible refine awp_exit ?_)
        | (with_reducible refine post_ret ?_)
        | (with_reducible refine post_normal ?_)
        | (with_reducible refine awp_block ?_)
        | (with_reducible refine awp_scope_ret ?_)
        | (with_reducible refine awp_label ?_)
        | (with_reducible refine v_reg [] (fun K hK => ?_))
        | (with_reducible refine v_reg1 [] (fun K hK => ?_))
        | (with_reducible refine v_draw mixed [] [] (by kernel_rfl) (fun K hK => ?_))
        | (with_reducible refine v_draw1 mixed [] [] (by kernel_rfl) (fun K hK => ?_))
        | (with_reducible refine ev_nil (hK _ _ ?_); clear hK K)
        | (with_reducible refine ed_nil (hK _ _ ?_); clear hK K)
        | ((first | with_reducible refine ev_cons (fun K' hK' => ?_) | with_reducible refine ed_cons (fun K' hK' => ?_) | (with_reducible refine ev_id ?_; refine ev_guard rfl (fun K' hK' => ?_)) | (with_reducible refine ed_id ?_; refine ed_guard rfl (fun K' hK' => ?_))); simp [hQ, hP, hQP, Ne.symm hQP, hf, hle, htk]; repeat' (first | (with_reducible refine hK' _ _ ?_; clear hK' K') | (with_reducible refine And.intro ?_ ?_) | (with_reducible intro hg) | (clear hK' K'; omega)))
        | (with_reducible refine w_cond (fun A B hA hB => ?_); simp [hQ, hP, hQP, Ne.symm hQP, hf, hle, htk]; repeat' (first | (with_reducible refine hA ?_; clear hA hB A B) | (with_reducible refine hB ?_; clear hA hB A B) | (with_reducible refine And.intro ?_ ?_) | (with_reducible intro hc)))
        | (with_reducible refine awp_seq ?_))
      rename_i P'
      have hPP : P' = P ∨ (P' ≠ P ∧ h P' = none) := by
        by_cases e : P' = P
        · exact .inl e
        · right; exact ⟨e, by simpa [e] using hg⟩
      have hQP' : Q ≠ P' := by
        rintro rfl
        rcases hPP with e | ⟨_, e⟩
        · exact hQP e
        · rw [hQ] at e; cases e
      have hnP' : H P' = none := by
        rcases hPP with e | ⟨_, e⟩
        · rw [e]; exact q.nP
        · exact sub_free qs.sub e
      simp [hQP', hQ]
      with_reducible refine hK' _ _ ?_
      clear hK' K'
      repeat' (first
        | (with_reducible refine awp_skip ?_)
        | (with_reducible refine then_any ?_)
        | (with_reducible refine then_ret ?_)
        | (with_reducible refine then_exit ?_)
        | (with_reducible refine inBlock_normal ?_)
        | (with_reducible refine inBlock_ret ?_)
        | (with_reducible refine inBlock_hit ?_)
        | (with_reducible refine inBlock_miss (by decide) ?_)
        | (with_reducible refine awp_ret ?_)
        | (with_reducible refine awp_exit ?_)
        | (with_reducible refine post_ret ?_)
        | (with_reducible refine post_normal ?_)
        | (with_reducible refine awp_block ?_)
        | (with_reducible refine awp_scope_ret ?_)
        | (with_reducible refine awp_label ?_)
        | (with_reducible refine v_reg [] (fun K hK => ?_))
        | (with_reducible refine v_reg1 [] (fun K hK => ?_))
        | (with_reducible refine v_draw mixed [] [] (by kernel_rfl) (fun K hK => ?_))
        | (with_reducible refine v_draw1 mixed [] [] (by kernel_rfl) (fun K hK => ?_))
        | (with_reducible refine ev_nil (hK _ _ ?_); clear hK K)
        | (with_reducible refine ed_nil (hK _ _ ?_); clear hK K)
        | ((first | with_reducible refine ev_cons (fun K' hK' => ?_) | with_reducible refine ed_cons (fun K' hK' => ?_) | (with_reducible refine ev_id ?_; refine ev_guard rfl (fun K' hK' => ?_)) | (with_reducible refine ed_id ?_; refine ed_guard rfl (fun K' hK' => ?_))); simp; repeat' (first | (with_reducible refine hK' _ _ ?_; clear hK' K') | (with_reducible refine And.intro ?_ ?_) | (with_reducible intro hg) | (clear hK' K'; omega)))
        | (with_reducible refine w_cond (fun A B hA hB => ?_); simp; repeat' (first | (with_reducible refine hA ?_; clear hA hB A B) | (with_reducible refine hB ?_; clear hA hB A B) | (with_reducible refine And.intro ?_ ?_) | (with_reducible intro hc)))
        | (with_reducible refine awp_seq ?_))
      refine ⟨by simp [resA], P', _, ((qs.sub.upd q.nP _).upd hnP' _).upd qs.nQ _, ⟨hnP', by rw [upd_same]; simp, by rw [upd_ne _ _ _ (Ne.symm hQP'), upd_same], hflat, by simp, by rw [hlen]; simp, by omega⟩⟩
theorem pairsPop_use {H h : Heap} {Q P top n : Nat} {l : List (Int × Int)} {cells : List AV} (hs : Sub H h) (nQ : H Q = none) (q : QR H h Q P l top cells) (hn : l.length = n + 1) {K : AV → Heap → Prop}
    (k : ∀ h', Sub H h' → QR H h' Q P (l.take n) top cells → K (.ifc 113 (.agg [I (gP l n).1, I (gP l n).2])) h') :
    ACalls Try.prog w0 137 [.ptr Q 0 0] h K := by
  refine (?_ : ACalls Try.prog w0 137 [.ptr Q 0 0] h (fun v h' => v = .ifc 113 (.agg [I (gP l n).1, I (gP l n).2]) ∧ Sub H h' ∧ QR H h' Q P (l.take n) top cells)).drop ?_
  rotate_left
  · rintro v h' ⟨rfl, s, q'⟩
    exact ⟨_, .refl _, k h' s q'⟩
  clear k K
  have hQ := q.hQ
  have hP := q.hP
  have hQP : Q ≠ P := fun e => by rw [e, hP] at hQ; cases hQ
  have hle := q.le
  have hnl : n < l.length := by omega
  have pn := q.cp.pair hnl
  have an := q.cp.len hnl
  have an' : n * 2 < cells.length := by omega
  have hbd := q.bd
  have hnt : n ≤ top := by omega
  have hnt' : n < top := by omega
  rw [hn] at hQ
  refine w_enter Try.func137 rfl Try.ntmps137 (ts := [2]) rfl (by simp) (by kernel_rfl) ?_
  repeat' (first
    | (with_reducible refine awp_skip ?_)
    | (with_reducible refine then_any ?_)
    | (with_reducible refine then_ret ?_)
    | (with_reducible refine then_exit ?_)
    | (with_reducible refine inBlock_normal ?_)
    | (with_reducible refine inBlock_ret ?_)
    | (with_reducible refine inBlock_hit ?_)
    | (with_reducible refine inBlock_miss (by decide) ?_)
    | (with_reducible refine awp_ret ?_)
    | (with_reducible refine awp_exit ?_)
    | (with_reducible refine post_ret ?_)
    | (with_reducible refine post_normal ?_)
    | (with_reducible refine awp_block ?_)
    | (with_reducible refine awp_scope_ret ?_)
    | (with_reducible refine awp_label ?_)
    | ((fail_if_success (with_reducible refine at_reg 3 ?_)); with_reducible refine v_reg [] (fun K hK => ?_))
    | ((fail_if_success (with_reducible refine (?_ : AWP _ _ _ (Code.region 3 _ _) _ _ _))); with_reducible refine v_reg1 [] (fun K hK => ?_))
    | ((fail_if_success (with_reducible refine at_reg 3 ?_)); with_reducible refine v_draw mixed [] [] (by kernel_rfl) (fun K hK => ?_))
    | ((fail_if_success (with_reducible refine (?_ : AWP _ _ _ (Code.region 3 _ _) _ _ _))); with_reducible refine v_draw1 mixed [] [] (by kernel_rfl) (fun K hK => ?_))
    | (with_reducible refine ev_nil (hK _ _ ?_); clear hK K)
    | (with_reducible refine ed_nil (hK _ _ ?_); clear hK K)
    | ((first | with_reducible refine ev_cons (fun K' hK' => ?_) | with_reducible refine ed_cons (fun K' hK' => ?_) | (with_reducible refine ev_id ?_; refine ev_guard rfl (fun K' hK' => ?_)) | (with_reducible refine ed_id ?_; refine ed_guard rfl (fun K' hK' => ?_))); simp [hQ, hP, hQP, Ne.symm hQP, pn, an, an', hnt, hnt']; repeat' (first | (with_reducible refine hK' _ _ ?_; clear hK' K') | (with_reducible refine And.intro ?_ ?_) | (with_reducible intro hg) | (clear hK' K'; omega)))
    | (with_reducible refine w_cond (fun A B hA hB => ?_); simp [hQ, hP, hQP, Ne.symm hQP, pn, an, an', hnt, hnt']; repeat' (first | (with_reducible refine hA ?_; clear hA hB A B) | (with_reducible refine hB ?_; clear hA hB A B) | (with_reducible refine And.intro ?_ ?_) | (with_reducible intro hc)))
    | ((fail_if_success (with_reducible refine at_reg 3 ?_)); with_reducible refine awp_seq ?_))
  all_goals try omega
  rename_i x
  have hxQ : x ≠ Q := fun e => by rw [e, hQ] at hg; cases hg
  have hxP : x ≠ P := fun e => by rw [e, hP] at hg; cases hg
  repeat' (first
    | (with_reducible refine awp_skip ?_)
    | (with_reducible refine then_any ?_)
    | (with_reducible refine then_ret ?_)
    | (with_reducible refine then_exit ?_)
    | (with_reducible refine inBlock_normal ?_)
    | (with_reducible refine inBlock_ret ?_)
    | (with_reducible refine inBlock_hit ?_)
    | (with_reducible refine inBlock_miss (by decide) ?_)
    | (with_reducible refine awp_ret ?_)
    | (with_reducible refine awp_exit ?_)
    | (with_reducible refine post_ret ?_)
    | (with_reducible refine post_normal ?_)
    | (with_reducible refine awp_block ?_)
    | (with_reducible refine awp_scope_ret ?_)
    | (with_reducible refine awp_label ?_)
    | (with_reducible refine v_reg [] (fun K hK => ?_))
    | (with_reducible refine v_reg1 [] (fun K hK => ?_))
    | (with_reducible refine v_draw mixed [] [] (by kernel_rfl) (fun K hK => ?_))
    | (with_reducible refine v_draw1 mixed [] [] (by kernel_rfl) (fun K hK => ?_))
    | (with_reducible refine ev_nil (hK _ _ ?_); clear hK K)
    | (with_reducible refine ed_nil (hK _ _ ?_); clear hK K)
    | ((first | with_reducible refine ev_cons (fun K' hK' => ?_) | with_reducible refine ed_cons (fun K' hK' => ?_) | (with_reducible refine ev_id ?_; refine ev_guard rfl (fun K' hK' => ?_)) | (with_reducible refine ed_id ?_; refine ed_guard rfl (fun K' hK' => ?_))); simp [hQ, hP, hQP, Ne.symm hQP, hxQ, hxP, Ne.symm hxQ, Ne.symm hxP, hnt, hnt']; repeat' (first | (with_reducible refine hK' _ _ ?_; clear hK' K') | (with_reducible refine And.intro ?_ ?_) | (with_reducible intro hg) | (clear hK' K'; omega)))
    | (with_reducible refine w_cond (fun A B hA hB => ?_); simp [hQ, hP, hQP, Ne.symm hQP, hxQ, hxP, Ne.symm hxQ, Ne.symm hxP, hnt, hnt']; repeat' (first | (with_reducible refine hA ?_; clear hA hB A B) | (with_reducible refine hB ?_; clear hA hB A B) | (with_reducible refine And.intro ?_ ?_) | (with_reducible intro hc)))
    | (with_reducible refine awp_seq ?_))
  all_goals try omega
  refine ⟨by simp, (hs.upd (sub_free hs hg) _).upd nQ _, ⟨q.nP, by rw [upd_same]; simp [hn], by rw [upd_ne _ _ _ (Ne.symm hQP), upd_ne _ _ _ (Ne.symm hxP)]; exact hP, q.cp.init n, by simp; omega, q.len, hbd⟩⟩
set_option maxHeartbeats 2000000 in
theorem heapPush_use {H h : Heap} {Q P : Nat} {l : List (Int × Int)} {a b : Int} (qs : QS H h Q P l) (hl : l.length ≤ 4096) {K : AV → Heap → Prop}
    (k : ∀ P' l' h', QS H h' Q P' l' → l'.Perm ((a, b) :: l) → K (.tup []) h') :
    ACalls Try.prog w0 87 [ifcQ Q, .ifc 113 (.agg [I a, I b])] h K := by
  refine (?_ : ACalls Try.prog w0 87 [ifcQ Q, .ifc 113 (.agg [I a, I b])] h (fun v h' => v = .tup [] ∧ ∃ P' l', QS H h' Q P' l' ∧ l'.Perm ((a, b) :: l))).drop ?_
  rotate_left
  · rintro v h' ⟨rfl, P', l', s, q⟩
    exact ⟨_, .refl _, k P' l' h' s q⟩
  clear k K
  refine w_enter Try.func87 rfl Try.ntmps87 (ts := []) rfl (by simp) (by kernel_rfl) ?_
  repeat' (first
    | (with_reducible refine awp_skip ?_)
    | (with_reducible refine then_any ?_)
    | (with_reducible refine then_ret ?_)
    | (with_reducible refine then_exit ?_)
    | (with_reducible refine inBlock_normal ?_)
    | (with_reducible refine inBlock_ret ?_)
    | (with_reducible refine inBlock_hit ?_)
    | (with_reducible refine inBlock_miss (by decide) ?_)
    | (with_reducible refine awp_ret ?_)
    | (with_reducible refine awp_exit ?_)
    | (with_reducible refine post_ret ?_)
    | (with_reducible refine post_normal ?_)
    | (with_reducible refine awp_block ?_)
    | (with_reducible refine awp_scope_ret ?_)
    | (with_reducible refine awp_label ?_)
    | ((fail_if_success (with_reducible refine at_reg 1 ?_)); with_reducible refine v_reg [] (fun K hK => ?_))
    | ((fail_if_success (with_reducible refine (?_ : AWP _ _ _ (Code.region 1 _ _) _ _ _))); with_reducible refine v_reg1 [] (fun K hK => ?_))
    | ((fail_if_success (with_reducible refine at_reg 1 ?_)); with_reducible refine v_draw mixed [] [] (by kernel_rfl) (fun K hK => ?_))
    | ((fail_if_success (with_reducible refine (?_ : AWP _ _ _ (Code.region 1 _ _) _ _ _))); with_reducible refine v_draw1 mixed [] [] (by kernel_rfl) (fun K hK => ?_))
    | (with_reducible refine ev_nil (hK _ _ ?_); clear hK K)
    | (with_reducible refine ed_nil (hK _ _ ?_); clear hK K)
    | ((first | with_reducible refine ev_cons (fun K' hK' => ?_) | with_reducible refine ed_cons (fun K' hK' => ?_) | (with_reducible refine ev_id ?_; refine ev_guard rfl (fun K' hK' => ?_)) | (with_reducible refine ed_id ?_; refine ed_guard rfl (fun K' hK' => ?_))); simp; repeat' (first | (with_reducible refine hK' _ _ ?_; clear hK' K') | ((with_reducible refine pairsPush_use qs hl (fun P' cells h' s q => ?_)); try simp) | (with_reducible refine And.intro ?_ ?_) | (with_reducible intro hg) | (clear hK' K'; omega)))
    | (with_reducible refine w_cond (fun A B hA hB => ?_); simp; repeat' (first | (with_reducible refine hA ?_; clear hA hB A B) | (with_reducible refine hB ?_; clear hA hB A B) | (with_reducible refine And.intro ?_ ?_) | (with_reducible intro hc)))
    | ((fail_if_success (with_reducible refine at_reg 1 ?_)); with_reducible refine awp_seq ?_))
  have hQ := q.hQ
  have hP := q.hP
  have hsz : (l ++ [(a, b)]).length = l.length + 1 := by simp
  have hup := UpI.start (l := l ++ [(a, b)]) (n := l.length + 1) (fun k k0 hk => by
    have := qs.heap k k0 (by omega)
    have e : ∀ x, x < l.length → gP (l ++ [(a, b)]) x = gP l x := fun x hx => by simp [gP, List.getD_eq_getElem?_getD, List.getElem?_append_left hx]
    rw [e _ (by omega), e _ (by omega)]; exact this)
  have hle := q.le
  have hbd := q.bd
  have hlen := q.len
  have hcp := q.cp
  have hnP := q.nP
  have hQ2 := hQ
  rw [hsz] at hQ
  have e1 : ((l.length : Int) + 1) - 1 = (l.length : Int) := by omega
  have e2 : l.length + 1 - 1 = l.length := by omega
  rw [e2, ← hsz] at hup
  rw [← hsz] at hQ2 hP
  repeat' (first
    | (with_reducible refine awp_skip ?_)
    | (with_reducible refine then_any ?_)
    | (with_reducible refine then_ret ?_)
    | (with_reducible refine then_exit ?_)
    | (with_reducible refine inBlock_normal ?_)
    | (with_reducible refine inBlock_ret ?_)
    | (with_reducible refine inBlock_hit ?_)
    | (with_reducible refine inBlock_miss (by decide) ?_)
    | (with_reducible refine awp_ret ?_)
    | (with_reducible refine awp_exit ?_)
    | (with_reducible refine post_ret ?_)
    | (with_reducible refine post_normal ?_)
    | (with_reducible refine awp_block ?_)
    | (with_reducible refine awp_scope_ret ?_)
    | (with_reducible refine awp_label ?_)
    | (with_reducible refine v_reg [] (fun K hK => ?_))
    | (with_reducible refine v_reg1 [] (fun K hK => ?_))
    | (with_reducible refine v_draw mixed [] [] (by kernel_rfl) (fun K hK => ?_))
    | (with_reducible refine v_draw1 mixed [] [] (by kernel_rfl) (fun K hK => ?_))
    | (with_reducible refine ev_nil (hK _ _ ?_); clear hK K)
    | (with_reducible refine ed_nil (hK _ _ ?_); clear hK K)
    | ((first | with_reducible refine ev_cons (fun K' hK' => ?_) | with_reducible refine ed_cons (fun K' hK' => ?_) | (with_reducible refine ev_id ?_; refine ev_guard rfl (fun K' hK' => ?_)) | (with_reducible refine ed_id ?_; refine ed_guard rfl (fun K' hK' => ?_))); simp [hQ, e1]; repeat' (first | (with_reducible refine hK' _ _ ?_; clear hK' K') | ((with_reducible refine RetAt.use len_at ?_); try simp [hQ, e1]) | ((with_reducible refine up_use hQ2 hP hcp (by omega) (by omega) (by omega) hup (fun l' cells' a1 a2 a3 a4 => ?_)); try simp [hQ, e1]) | (with_reducible refine And.intro ?_ ?_) | (with_reducible intro hg) | (clear hK' K'; omega)))
    | (with_reducible refine w_cond (fun A B hA hB => ?_); simp [hQ, e1]; repeat' (first | (with_reducible refine hA ?_; clear hA hB A B) | (with_reducible refine hB ?_; clear hA hB A B) | (with_reducible refine And.intro ?_ ?_) | (with_reducible intro hc)))
    | (with_reducible refine awp_seq ?_))
  have hll := a1.length_eq
  rw [hsz] at hll
  have hQP' : Q ≠ P' := fun e => by rw [e, hP] at hQ2; cases hQ2
  exact ⟨by simp [resA], P', l', ⟨s.upd hnP _, qs.nQ, a2, .inr ⟨l.length + 1, cells', ⟨hnP, by rw [upd_ne _ _ _ hQP', hQ, hll], upd_same _ _ _, a3, by omega, by rw [a4, hlen], hbd⟩⟩⟩, a1.trans (List.perm_append_singleton (a, b) l)⟩
theorem swap0_at {h : Heap} {P top k : Nat} {l : List (Int × Int)} {cells : List AV} (hP : h P = some (.arr 2 113 cells top)) (hc : CP l cells) (ht : l.length ≤ top) (hk : k < l.length) (hb : top ≤ 1000000) {K : AV → Heap → Prop}
    (kk : K (.tup []) (upd h P (some (.arr 2 113 (swapC l cells 0 k) top)))) :
    ACalls Try.prog w0 136 [.ref P 0 l.length top, I 0, I k] h K := swap_at (i := 0) hP hc ht (by omega) hk hb kk
theorem least_in {l : List (Int × Int)} (h : HeapP l l.length) : ∀ x ∈ l, leP (gP l 0) x := by
  intro x hx
  obtain ⟨i, hi, rfl⟩ := List.mem_iff_getElem.1 hx
  rw [← gP_get hi]
  exact h.least i hi
theorem split_last {l : List (Int × Int)} {n : Nat} (hn : l.length = n + 1) : (gP l n :: l.take n).Perm l := by
  have e : l = l.take n ++ [gP l n] := by
    rw [gP_get (by omega), ← List.take_succ_eq_append_getElem (by omega), List.take_of_length_le (by omega)]
  exact (List.perm_append_singleton _ _).symm.trans (.of_eq e.symm)
theorem HeapP.take {l : List (Int × Int)} {n : Nat} (h : HeapP l n) : HeapP (l.take n) (l.take n).length := by
  intro k k0 hk
  rw [List.length_take] at hk
  have e : ∀ x, x < n → gP (l.take n) x = gP l x := fun x hx => by simp [gP, List.getD_eq_getElem?_getD, List.getElem?_take, hx]
  rw [e _ (by omega), e _ (by omega)]
  exact h k k0 (by omega)
set_option maxHeartbeats 2000000 in
theorem heapPop_use {H h : Heap} {Q P : Nat} {l : List (Int × Int)} (qs : QS H h Q P l) (hne : l ≠ []) {K : AV → Heap → Prop}
    (k : ∀ m l' h', QS H h' Q P l' → (m :: l').Perm l → (∀ x ∈ l, leP m x) → K (.ifc 113 (.agg [I m.1, I m.2])) h') :
    ACalls Try.prog w0 89 [ifcQ Q] h K := by
  refine (?_ : ACalls Try.prog w0 89 [ifcQ Q] h (fun v h' => ∃ m l', v = .ifc 113 (.agg [I m.1, I m.2]) ∧ QS H h' Q P l' ∧ (m :: l').Perm l ∧ ∀ x ∈ l, leP m x)).drop ?_
  rotate_left
  · rintro v h' ⟨m, l', rfl, a, b, c⟩
    exact ⟨_, .refl _, k m l' h' a b c⟩
  clear k K
  obtain ⟨n, hn⟩ : ∃ n, l.length = n + 1 := ⟨l.length - 1, by have := List.length_pos_iff.2 hne; omega⟩
  rcases qs.st with ⟨e, _⟩ | ⟨top, cells, q⟩
  · exact absurd e hne
  have hQ := q.hQ
  have hP := q.hP
  have hQP : Q ≠ P := fun e => by rw [e, hP] at hQ; cases hQ
  have hle := q.le
  have hbd := q.bd
  have hnl : n < l.length := by omega
  have hcp := q.cp
  have hdn := DnI.start (n := n) (by rw [← hn]; exact qs.heap) hnl
  have hcp1 : CP (swapL l 0 n) (swapC l cells 0 n) := hcp.swap (i := 0) (by omega) hnl
  have hsl := swapL_length l 0 n
  have hg0 : gP (swapL l 0 n) n = gP l 0 := by rw [gP_swap (by omega) hnl, if_pos rfl]
  have e1 : ((l.length : Nat) : Int) - 1 = (n : Int) := by omega
  have hQ1 : (upd h P (some (.arr 2 113 (swapC l cells 0 n) top))) Q = some (.box [.ref P 0 (swapL l 0 n).length top]) := by rw [upd_ne _ _ _ hQP, hsl]; exact hQ
  refine w_enter Try.func89 rfl Try.ntmps89 (ts := [2]) rfl (by simp) (by kernel_rfl) ?_
  repeat' (first
    | (with_reducible refine awp_skip ?_)
    | (with_reducible refine then_any ?_)
    | (with_reducible refine then_ret ?_)
    | (with_reducible refine then_exit ?_)
    | (with_reducible refine inBlock_normal ?_)
    | (with_reducible refine inBlock_ret ?_)
    | (with_reducible refine inBlock_hit ?_)
    | (with_reducible refine inBlock_miss (by decide) ?_)
    | (with_reducible refine awp_ret ?_)
    | (with_reducible refine awp_exit ?_)
    | (with_reducible refine post_ret ?_)
    | (with_reducible refine post_normal ?_)
    | (with_reducible refine awp_block ?_)
    | (with_reducible refine awp_scope_ret ?_)
    | (with_reducible refine awp_label ?_)
    | ((fail_if_success (with_reducible refine at_reg 4 ?_)); with_reducible refine v_reg [] (fun K hK => ?_))
    | ((fail_if_success (with_reducible refine (?_ : AWP _ _ _ (Code.region 4 _ _) _ _ _))); with_reducible refine v_reg1 [] (fun K hK => ?_))
    | ((fail_if_success (with_reducible refine at_reg 4 ?_)); with_reducible refine v_draw mixed [] [] (by kernel_rfl) (fun K hK => ?_))
    | ((fail_if_success (with_reducible refine (?_ : AWP _ _ _ (Code.region 4 _ _) _ _ _))); with_reducible refine v_draw1 mixed [] [] (by kernel_rfl) (fun K hK => ?_))
    | (with_reducible refine ev_nil (hK _ _ ?_); clear hK K)
    | (with_reducible refine ed_nil (hK _ _ ?_); clear hK K)
    | ((first | with_reducible refine ev_cons (fun K' hK' => ?_) | with_reducible refine ed_cons (fun K' hK' => ?_) | (with_reducible refine ev_id ?_; refine ev_guard rfl (fun K' hK' => ?_)) | (with_reducible refine ed_id ?_; refine ed_guard rfl (fun K' hK' => ?_))); simp [hQ, e1]; repeat' (first | (with_reducible refine hK' _ _ ?_; clear hK' K') | ((with_reducible refine RetAt.use len_at ?_); try simp [hQ, e1]) | ((with_reducible refine swap0_at hP hcp hle hnl (by omega) ?_); try simp [hQ, e1]) | ((with_reducible refine down_use hQ1 (upd_same _ _ _) hcp1 (by omega) (by omega) (by omega) hdn (fun v l2 cells2 b1 b2 b3 b4 b5 => ?_)); try simp [hQ, e1]) | (with_reducible refine And.intro ?_ ?_) | (with_reducible intro hg) | (clear hK' K'; omega)))
    | (with_reducible refine w_cond (fun A B hA hB => ?_); simp [hQ, e1]; repeat' (first | (with_reducible refine hA ?_; clear hA hB A B) | (with_reducible refine hB ?_; clear hA hB A B) | (with_reducible refine And.intro ?_ ?_) | (with_reducible intro hc)))
    | ((fail_if_success (with_reducible refine at_reg 4 ?_)); with_reducible refine awp_seq ?_))
  have hll := b1.length_eq
  rw [hsl] at hll
  have q2 : QR H (upd (upd h P (some (.arr 2 113 (swapC l cells 0 n) top))) P (some (.arr 2 113 cells2 top))) Q P l2 top cells2 :=
    ⟨q.nP, by rw [upd_ne _ _ _ hQP, upd_ne _ _ _ hQP, hll]; exact hQ, upd_same _ _ _, b4, by omega, by rw [b5, swapC_length]; exact q.len, hbd⟩
  have hs2 : Sub H (upd (upd h P (some (.arr 2 113 (swapC l cells 0 n) top))) P (some (.arr 2 113 cells2 top))) := (qs.sub.upd q.nP _).upd q.nP _
  rw [hg0] at b3
  rw [upd_upd] at q2 hs2
  repeat' (first
    | (with_reducible refine awp_skip ?_)
    | (with_reducible refine then_any ?_)
    | (with_reducible refine then_ret ?_)
    | (with_reducible refine then_exit ?_)
    | (with_reducible refine inBlock_normal ?_)
    | (with_reducible refine inBlock_ret ?_)
    | (with_reducible refine inBlock_hit ?_)
    | (with_reducible refine inBlock_miss (by decide) ?_)
    | (with_reducible refine awp_ret ?_)
    | (with_reducible refine awp_exit ?_)
    | (with_reducible refine post_ret ?_)
    | (with_reducible refine post_normal ?_)
    | (with_reducible refine awp_block ?_)
    | (with_reducible refine awp_scope_ret ?_)
    | (with_reducible refine awp_label ?_)
    | (with_reducible refine v_reg [] (fun K hK => ?_))
    | (with_reducible refine v_reg1 [] (fun K hK => ?_))
    | (with_reducible refine v_draw mixed [] [] (by kernel_rfl) (fun K hK => ?_))
    | (with_reducible refine v_draw1 mixed [] [] (by kernel_rfl) (fun K hK => ?_))
    | (with_reducible refine ev_nil (hK _ _ ?_); clear hK K)
    | (with_reducible refine ed_nil (hK _ _ ?_); clear hK K)
    | ((first | with_reducible refine ev_cons (fun K' hK' => ?_) | with_reducible refine ed_cons (fun K' hK' => ?_) | (with_reducible refine ev_id ?_; refine ev_guard rfl (fun K' hK' => ?_)) | (with_reducible refine ed_id ?_; refine ed_guard rfl (fun K' hK' => ?_))); simp; repeat' (first | (with_reducible refine hK' _ _ ?_; clear hK' K') | ((with_reducible refine pairsPop_use hs2 qs.nQ q2 (n := n) (by omega) (fun h' s3 q3 => ?_)); try simp) | (with_reducible refine And.intro ?_ ?_) | (with_reducible intro hg) | (clear hK' K'; omega)))
    | (with_reducible refine w_cond (fun A B hA hB => ?_); simp; repeat' (first | (with_reducible refine hA ?_; clear hA hB A B) | (with_reducible refine hB ?_; clear hA hB A B) | (with_reducible refine And.intro ?_ ?_) | (with_reducible intro hc)))
    | (with_reducible refine awp_seq ?_))
  refine ⟨gP l2 n, l2.take n, by simp, ⟨s3, qs.nQ, b2.take, .inr ⟨top, cells2, q3⟩⟩, (split_last (by omega)).trans (b1.trans (swapL_perm (by omega) hnl)), ?_⟩
  rw [b3]
  exact least_in qs.heap
theorem QS.new {H h : Heap} {Q P r : Nat} {l : List (Int × Int)} {b : Option Blk} (s : QS H h Q P l) (hr : h r = none) : QS H (upd h r b) Q P l := by
  refine ⟨s.sub.upd (sub_free s.sub hr) _, s.nQ, s.heap, ?_⟩
  rcases s.st with ⟨e, hQ⟩ | ⟨top, cells, q⟩
  · exact .inl ⟨e, by rw [upd_ne _ _ _ (fun e' => by rw [← e', hQ] at hr; cases hr)]; exact hQ⟩
  · exact .inr ⟨top, cells, q.nP, by rw [upd_ne _ _ _ (fun e' => by have := q.hQ; rw [e', hr] at this; cases this)]; exact q.hQ,
      by rw [upd_ne _ _ _ (fun e' => by have := q.hP; rw [e', hr] at this; cases this)]; exact q.hP, q.cp, q.le, q.len, q.bd⟩
theorem new_use {h : Heap} {K : AV → Heap → Prop} (k : ∀ Q, h Q = none → K (.ptr Q 0 0) (upd h Q (some (.box [.sc (.slice none 0 0)])))) : ACalls Try.prog w0 67 [] h K := by
  refine (?_ : ACalls Try.prog w0 67 [] h (fun v h' => ∃ Q, h Q = none ∧ v = .ptr Q 0 0 ∧ h' = upd h Q (some (.box [.sc (.slice none 0 0)])))).drop ?_
  rotate_left
  · rintro v h' ⟨Q, a, rfl, rfl⟩
    exact ⟨_, .refl _, k Q a⟩
  refine w_enter Try.func67 rfl Try.ntmps67 (ts := [0]) rfl (by simp) (by kernel_rfl) ?_
  repeat' (first
    | (with_reducible refine awp_skip ?_)
    | (with_reducible refine then_any ?_)
    | (with_reducible refine then_ret ?_)
    | (with_reducible refine then_exit ?_)
    | (with_reducible refine inBlock_normal ?_)
    | (with_reducible refine inBlock_ret ?_)
    | (with_reducible refine inBlock_hit ?_)
    | (with_reducible refine inBlock_miss (by decide) ?_)
    | (with_reducible refine awp_ret ?_)
    | (with_reducible refine awp_exit ?_)
    | (with_reducible refine post_ret ?_)
    | (with_reducible refine post_normal ?_)
    | (with_reducible refine awp_block ?_)
    | (with_reducible refine awp_scope_ret ?_)
    | (with_reducible refine awp_label ?_)
    | (with_reducible refine v_reg [] (fun K hK => ?_))
    | (with_reducible refine v_reg1 [] (fun K hK => ?_))
    | (with_reducible refine v_draw mixed [] [] (by kernel_rfl) (fun K hK => ?_))
    | (with_reducible refine v_draw1 mixed [] [] (by kernel_rfl) (fun K hK => ?_))
    | (with_reducible refine ev_nil (hK _ _ ?_); clear hK K)
    | (with_reducible refine ed_nil (hK _ _ ?_); clear hK K)
    | ((first | with_reducible refine ev_cons (fun K' hK' => ?_) | with_reducible refine ed_cons (fun K' hK' => ?_) | (with_reducible refine ev_id ?_; refine ev_guard rfl (fun K' hK' => ?_)) | (with_reducible refine ed_id ?_; refine ed_guard rfl (fun K' hK' => ?_))); simp; repeat' (first | (with_reducible refine hK' _ _ ?_; clear hK' K') | (with_reducible refine And.intro ?_ ?_) | (with_reducible intro hg) | (clear hK' K'; omega)))
    | (with_reducible refine w_cond (fun A B hA hB => ?_); simp; repeat' (first | (with_reducible refine hA ?_; clear hA hB A B) | (with_reducible refine hB ?_; clear hA hB A B) | (with_reducible refine And.intro ?_ ?_) | (with_reducible intro hc)))
    | (with_reducible refine awp_seq ?_))
  exact ⟨_, hg, by simp, rfl⟩
theorem queuePush_use {H h : Heap} {Q P : Nat} {l : List (Int × Int)} {a b : Int} (qs : QS H h Q P l) (hl : l.length ≤ 4096) {K : AV → Heap → Prop}
    (k : ∀ P' l' h', QS H h' Q P' l' → l'.Perm ((a, b) :: l) → K (.tup []) h') :
    ACalls Try.prog w0 69 [.ptr Q 0 0, I a, I b] h K := by
  refine (?_ : ACalls Try.prog w0 69 [.ptr Q 0 0, I a, I b] h (fun v h' => v = .tup [] ∧ ∃ P' l', QS H h' Q P' l' ∧ l'.Perm ((a, b) :: l))).drop ?_
  rotate_left
  · rintro v h' ⟨rfl, P', l', s, q⟩
    exact ⟨_, .refl _, k P' l' h' s q⟩
  clear k K
  have hQ : ∃ x, h Q = some (.box [x]) := by
    rcases qs.st with ⟨_, e⟩ | ⟨_, _, q⟩
    · exact ⟨_, e⟩
    · exact ⟨_, q.hQ⟩
  obtain ⟨x, hQ⟩ := hQ
  refine w_enter Try.func69 rfl Try.ntmps69 (ts := []) rfl (by simp) (by kernel_rfl) ?_
  repeat' (first
    | (with_reducible refine awp_skip ?_)
    | (with_reducible refine then_any ?_)
    | (with_reducible refine then_ret ?_)
    | (with_reducible refine then_exit ?_)
    | (with_reducible refine inBlock_normal ?_)
    | (with_reducible refine inBlock_ret ?_)
    | (with_reducible refine inBlock_hit ?_)
    | (with_reducible refine inBlock_miss (by decide) ?_)
    | (with_reducible refine awp_ret ?_)
    | (with_reducible refine awp_exit ?_)
    | (with_reducible refine post_ret ?_)
    | (with_reducible refine post_normal ?_)
    | (with_reducible refine awp_block ?_)
    | (with_reducible refine awp_scope_ret ?_)
    | (with_reducible refine awp_label ?_)
    | (with_reducible refine v_reg [] (fun K hK => ?_))
    | (with_reducible refine v_reg1 [] (fun K hK => ?_))
    | (with_reducible refine v_draw mixed [] [] (by kernel_rfl) (fun K hK => ?_))
    | (with_reducible refine v_draw1 mixed [] [] (by kernel_rfl) (fun K hK => ?_))
    | (with_reducible refine ev_nil (hK _ _ ?_); clear hK K)
    | (with_reducible refine ed_nil (hK _ _ ?_); clear hK K)
    | ((first | with_reducible refine ev_cons (fun K' hK' => ?_) | with_reducible refine ed_cons (fun K' hK' => ?_) | (with_reducible refine ev_id ?_; refine ev_guard rfl (fun K' hK' => ?_)) | (with_reducible refine ed_id ?_; refine ed_guard rfl (fun K' hK' => ?_))); simp [hQ]; repeat' (first | (with_reducible refine hK' _ _ ?_; clear hK' K') | ((with_reducible refine heapPush_use qs hl (fun P' l' h' a1 a2 => ?_)); try simp [hQ]) | (with_reducible refine And.intro ?_ ?_) | (with_reducible intro hg) | (clear hK' K'; omega)))
    | (with_reducible refine w_cond (fun A B hA hB => ?_); simp [hQ]; repeat' (first | (with_reducible refine hA ?_; clear hA hB A B) | (with_reducible refine hB ?_; clear hA hB A B) | (with_reducible refine And.intro ?_ ?_) | (with_reducible intro hc)))
    | (with_reducible refine awp_seq ?_))
  exact ⟨by simp [resA], P', l', a1, a2⟩
theorem queueLen_at {H h : Heap} {Q P : Nat} {l : List (Int × Int)} (qs : QS H h Q P l) : RetAt Try.prog w0 88 [.ptr Q 0 0] (I l.length) h := by
  refine .of ?_
  refine w_enter Try.func88 rfl Try.ntmps88 (ts := [2]) rfl (by simp) (by kernel_rfl) ?_
  rcases qs.st with ⟨rfl, hQ⟩ | ⟨top, cells, q⟩
  · repeat' (first
      | (with_reducible refine awp_skip ?_)
      | (with_reducible refine then_any ?_)
      | (with_reducible refine then_ret ?_)
      | (with_reducible refine then_exit ?_)
      | (with_reducible refine inBlock_normal ?_)
      | (with_reducible refine inBlock_ret ?_)
      | (with_reducible refine inBlock_hit ?_)
      | (with_reducible refine inBlock_miss (by decide) ?_)
      | (with_reducible refine awp_ret ?_)
      | (with_reducible refine awp_exit ?_)
      | (with_reducible refine post_ret ?_)
      | (with_reducible refine post_normal ?_)
      | (with_reducible refine awp_block ?_)
      | (with_reducible refine awp_scope_ret ?_)
      | (with_reducible refine awp_label ?_)
      | (with_reducible refine v_reg [] (fun K hK => ?_))
      | (with_reducible refine v_reg1 [] (fun K hK => ?_))
      | (with_reducible refine v_draw mixed [] [] (by kernel_rfl) (fun K hK => ?_))
      | (with_reducible refine v_draw1 mixed [] [] (by kernel_rfl) (fun K hK => ?_))
      | (with_reducible refine ev_nil (hK _ _ ?_); clear hK K)
      | (with_reducible refine ed_nil (hK _ _ ?_); clear hK K)
      | ((first | with_reducible refine ev_cons (fun K' hK' => ?_) | with_reducible refine ed_cons (fun K' hK' => ?_) | (with_reducible refine ev_id ?_; refine ev_guard rfl (fun K' hK' => ?_)) | (with_reducible refine ed_id ?_; refine ed_guard rfl (fun K' hK' => ?_))); simp [hQ]; repeat' (first | (with_reducible refine hK' _ _ ?_; clear hK' K') | (with_reducible refine Ret.use len_nil ?_; try simp [hQ]) | (with_reducible refine And.intro ?_ ?_) | (with_reducible intro hg) | (clear hK' K'; omega)))
      | (with_reducible refine w_cond (fun A B hA hB => ?_); simp [hQ]; repeat' (first | (with_reducible refine hA ?_; clear hA hB A B) | (with_reducible refine hB ?_; clear hA hB A B) | (with_reducible refine And.intro ?_ ?_) | (with_reducible intro hc)))
      | (with_reducible refine awp_seq ?_))
    exact ⟨by simp, .refl _⟩
  · have hQ := q.hQ
    repeat' (first
      | (with_reducible refine awp_skip ?_)
      | (with_reducible refine then_any ?_)
      | (with_reducible refine then_ret ?_)
      | (with_reducible refine then_exit ?_)
      | (with_reducible refine inBlock_normal ?_)
      | (with_reducible refine inBlock_ret ?_)
      | (with_reducible refine inBlock_hit ?_)
      | (with_reducible refine inBlock_miss (by decide) ?_)
      | (with_reducible refine awp_ret ?_)
      | (with_reducible refine awp_exit ?_)
      | (with_reducible refine post_ret ?_)
      | (with_reducible refine post_normal ?_)
      | (with_reducible refine awp_block ?_)
      | (with_reducible refine awp_scope_ret ?_)
      | (with_reducible refine awp_label ?_)
      | (with_reducible refine v_reg [] (fun K hK => ?_))
      | (with_reducible refine v_reg1 [] (fun K hK => ?_))
      | (with_reducible refine v_draw mixed [] [] (by kernel_rfl) (fun K hK => ?_))
      | (with_reducible refine v_draw1 mixed [] [] (by kernel_rfl) (fun K hK => ?_))
      | (with_reducible refine ev_nil (hK _ _ ?_); clear hK K)
      | (with_reducible refine ed_nil (hK _ _ ?_); clear hK K)
      | ((first | with_reducible refine ev_cons (fun K' hK' => ?_) | with_reducible refine ed_cons (fun K' hK' => ?_) | (with_reducible refine ev_id ?_; refine ev_guard rfl (fun K' hK' => ?_)) | (with_reducible refine ed_id ?_; refine ed_guard rfl (fun K' hK' => ?_))); simp [hQ]; repeat' (first | (with_reducible refine hK' _ _ ?_; clear hK' K') | ((with_reducible refine RetAt.use len_at ?_); try simp [hQ]) | (with_reducible refine And.intro ?_ ?_) | (with_reducible intro hg) | (clear hK' K'; omega)))
      | (with_reducible refine w_cond (fun A B hA hB => ?_); simp [hQ]; repeat' (first | (with_reducible refine hA ?_; clear hA hB A B) | (with_reducible refine hB ?_; clear hA hB A B) | (with_reducible refine And.intro ?_ ?_) | (with_reducible intro hc)))
      | (with_reducible refine awp_seq ?_))
    exact ⟨by simp, .refl _⟩
theorem queuePop_use {H h : Heap} {Q P : Nat} {l : List (Int × Int)} (qs : QS H h Q P l) {K : AV → Heap → Prop}
    (k0 : l = [] → K (.tup [I 0, I 0, B false]) h) (k : ∀ m l' h', QS H h' Q P l' → (m :: l').Perm l → (∀ x ∈ l, leP m x) → K (.tup [I m.1, I m.2, B true]) h') :
    ACalls Try.prog w0 70 [.ptr Q 0 0] h K := by
  refine (?_ : ACalls Try.prog w0 70 [.ptr Q 0 0] h (fun v h' => (l = [] ∧ v = .tup [I 0, I 0, B false] ∧ h' = h) ∨ ∃ m l', v = .tup [I m.1, I m.2, B true] ∧ QS H h' Q P l' ∧ (m :: l').Perm l ∧ ∀ x ∈ l, leP m x)).drop ?_
  rotate_left
  · rintro v h' (⟨e, rfl, rfl⟩ | ⟨m, l', rfl, a, b, c⟩)
    · exact ⟨_, .refl _, k0 e⟩
    · exact ⟨_, .refl _, k m l' h' a b c⟩
  clear k k0 K
  have hlen := queueLen_at (w0 := w0) qs
  have hQ : ∃ x, h Q = some (.box [x]) := by
    rcases qs.st with ⟨_, e⟩ | ⟨_, _, q⟩
    · exact ⟨_, e⟩
    · exact ⟨_, q.hQ⟩
  obtain ⟨x, hQ⟩ := hQ
  refine w_enter Try.func70 rfl Try.ntmps70 (ts := [2, 3, 4]) rfl (by simp) (by kernel_rfl) ?_
  by_cases hne : l = []
  · subst hne
    repeat' (first
      | (with_reducible refine awp_skip ?_)
      | (with_reducible refine then_any ?_)
      | (with_reducible refine then_ret ?_)
      | (with_reducible refine then_exit ?_)
      | (with_reducible refine inBlock_normal ?_)
      | (with_reducible refine inBlock_ret ?_)
      | (with_reducible refine inBlock_hit ?_)
      | (with_reducible refine inBlock_miss (by decide) ?_)
      | (with_reducible refine awp_ret ?_)
      | (with_reducible refine awp_exit ?_)
      | (with_reducible refine post_ret ?_)
      | (with_reducible refine post_normal ?_)
      | (with_reducible refine awp_block ?_)
      | (with_reducible refine awp_scope_ret ?_)
      | (with_reducible refine awp_label ?_)
      | (with_reducible refine v_reg [] (fun K hK => ?_))
      | (with_reducible refine v_reg1 [] (fun K hK => ?_))
      | (with_reducible refine v_draw mixed [] [] (by kernel_rfl) (fun K hK => ?_))
      | (with_reducible refine v_draw1 mixed [] [] (by kernel_rfl) (fun K hK => ?_))
      | (with_reducible refine ev_nil (hK _ _ ?_); clear hK K)
      | (with_reducible refine ed_nil (hK _ _ ?_); clear hK K)
      | ((first | with_reducible refine ev_cons (fun K' hK' => ?_) | with_reducible refine ed_cons (fun K' hK' => ?_) | (with_reducible refine ev_id ?_; refine ev_guard rfl (fun K' hK' => ?_)) | (with_reducible refine ed_id ?_; refine ed_guard rfl (fun K' hK' => ?_))); simp; repeat' (first | (with_reducible refine hK' _ _ ?_; clear hK' K') | ((with_reducible refine RetAt.use hlen ?_); try simp) | (with_reducible refine And.intro ?_ ?_) | (with_reducible intro hg) | (clear hK' K'; omega)))
      | (with_reducible refine w_cond (fun A B hA hB => ?_); simp; repeat' (first | (with_reducible refine hA ?_; clear hA hB A B) | (with_reducible refine hB ?_; clear hA hB A B) | (with_reducible refine And.intro ?_ ?_) | (with_reducible intro hc)))
      | (with_reducible refine awp_seq ?_))
    exact .inl ⟨rfl, by simp, rfl⟩
  · have hl0 : ¬ (l.length : Int) = 0 := by have := List.length_pos_iff.2 hne; omega
    have hl0' : ¬ l.length = 0 := by omega
    repeat' (first
      | (with_reducible refine awp_skip ?_)
      | (with_reducible refine then_any ?_)
      | (with_reducible refine then_ret ?_)
      | (with_reducible refine then_exit ?_)
      | (with_reducible refine inBlock_normal ?_)
      | (with_reducible refine inBlock_ret ?_)
      | (with_reducible refine inBlock_hit ?_)
      | (with_reducible refine inBlock_miss (by decide) ?_)
      | (with_reducible refine awp_ret ?_)
      | (with_reducible refine awp_exit ?_)
      | (with_reducible refine post_ret ?_)
      | (with_reducible refine post_normal ?_)
      | (with_reducible refine awp_block ?_)
      | (with_reducible refine awp_scope_ret ?_)
      | (with_reducible refine awp_label ?_)
      | (with_reducible refine v_reg [] (fun K hK => ?_))
      | (with_reducible refine v_reg1 [] (fun K hK => ?_))
      | (with_reducible refine v_draw mixed [] [] (by kernel_rfl) (fun K hK => ?_))
      | (with_reducible refine v_draw1 mixed [] [] (by kernel_rfl) (fun K hK => ?_))
      | (with_reducible refine ev_nil (hK _ _ ?_); clear hK K)
      | (with_reducible refine ed_nil (hK _ _ ?_); clear hK K)
      | ((first | with_reducible refine ev_cons (fun K' hK' => ?_) | with_reducible refine ed_cons (fun K' hK' => ?_) | (with_reducible refine ev_id ?_; refine ev_guard rfl (fun K' hK' => ?_)) | (with_reducible refine ed_id ?_; refine ed_guard rfl (fun K' hK' => ?_))); simp [hQ, hl0, hl0', hne]; repeat' (first | (with_reducible refine hK' _ _ ?_; clear hK' K') | ((with_reducible refine RetAt.use hlen ?_); try simp [hQ, hl0, hl0', hne]) | ((with_reducible refine heapPop_use qs hne (fun m l' h' a1 a2 a3 => ?_)); try simp [hQ, hl0, hl0', hne]) | (with_reducible refine And.intro ?_ ?_) | (with_reducible intro hg) | (clear hK' K'; omega)))
      | (with_reducible refine w_cond (fun A B hA hB => ?_); simp [hQ, hl0, hl0', hne]; repeat' (first | (with_reducible refine hA ?_; clear hA hB A B) | (with_reducible refine hB ?_; clear hA hB A B) | (with_reducible refine And.intro ?_ ?_) | (with_reducible intro hc)))
      | (with_reducible refine awp_seq ?_))
    exact .inr ⟨m, l', by simp, a1.new hg, a2, a3⟩
end Go.Am
namespace Go.Am
set_option linter.unusedVariables false
set_option linter.unusedSimpArgs false
def newsQ (arcs : List (Int × Int)) (tight : List Int) (v : Int) : Nat → List (Int × Int)
  | 0 => []
  | k + 1 => newsQ arcs tight v k ++ if tlA arcs (tight.getD k 0) = v then [((k : Int), tight.getD k 0)] else []
section
variable {arcs : List (Int × Int)} {n : Nat} {root : Int} {tight : List Int}
theorem newsQ_length (v : Int) (k : Nat) : (newsQ arcs tight v k).length ≤ k := by
  induction k with
  | zero => simp [newsQ]
  | succ k ih => rw [newsQ, List.length_append]; split <;> simp <;> omega
theorem mem_newsQ {v : Int} {k : Nat} {p : Int × Int} : p ∈ newsQ arcs tight v k ↔ ∃ j : Nat, j < k ∧ p = ((j : Int), tight.getD j 0) ∧ tlA arcs (tight.getD j 0) = v := by
  induction k with
  | zero => simp [newsQ]
  | succ k ih =>
    rw [newsQ, List.mem_append, ih]
    constructor
    · rintro (⟨j, a, b, c⟩ | h)
      · exact ⟨j, by omega, b, c⟩
      · split at h
        · rename_i e
          rw [List.mem_singleton] at h
          exact ⟨k, by omega, h, e⟩
        · cases h
    · rintro ⟨j, a, b, c⟩
      by_cases e : j = k
      · subst e
        right; rw [if_pos c, b]; simp
      · exact .inl ⟨j, by omega, b, c⟩
structure WaitI (arcs : List (Int × Int)) (tight : List Int) (s : GSt) (l : List (Int × Int)) : Prop where
  qa : ∀ p ∈ l, ∃ j : Nat, j < tight.length ∧ p = ((j : Int), tight.getD j 0) ∧ s.has (tlA arcs (tight.getD j 0)) = true
  qb : ∀ j : Nat, j < tight.length → s.has (tlA arcs (tight.getD j 0)) = true → s.has (hdA arcs (tight.getD j 0)) = false → ((j : Int), tight.getD j 0) ∈ l
theorem WaitI.start {l : List (Int × Int)} (h : l.Perm (newsQ arcs tight root tight.length)) : WaitI arcs tight (startG root no0) l := by
  have hh : ∀ u, (startG root no0).has u = true ↔ u = root := by
    intro u
    show setF (fun _ => false) root true u = true ↔ _
    by_cases e : u = root
    · subst e; simp [setF_same]
    · rw [setF_ne _ _ e]; simp [e]
  refine ⟨fun p hp => ?_, fun j hj ht hd => ?_⟩
  · obtain ⟨j, a, b, c⟩ := mem_newsQ.1 (h.mem_iff.1 hp)
    exact ⟨j, a, b, (hh _).2 c⟩
  · exact h.mem_iff.2 (mem_newsQ.2 ⟨j, hj, rfl, (hh _).1 ht⟩)
theorem WaitI.empty {s : GSt} (h : WaitI arcs tight s []) : ∀ i ∈ tight, okT arcs s i = false := by
  intro i hi
  obtain ⟨j, hj, rfl⟩ := List.mem_iff_getElem.1 hi
  cases e : okT arcs s tight[j] with
  | false => rfl
  | true =>
    simp only [okT, Bool.and_eq_true, Bool.not_eq_true'] at e
    have hg : tight.getD j 0 = tight[j] := by simp [List.getD_eq_getElem?_getD, hj]
    have := h.qb j hj (by rw [hg]; exact e.1) (by rw [hg]; exact e.2)
    cases this
theorem WaitI.skip {s : GSt} {l l' : List (Int × Int)} {m : Int × Int} (h : WaitI arcs tight s l) (hp : (m :: l').Perm l) (hm : s.has (hdA arcs m.2) = true) : WaitI arcs tight s l' := by
  refine ⟨fun p hq => h.qa p (hp.mem_iff.1 (List.mem_cons_of_mem _ hq)), fun j hj ht hd => ?_⟩
  have := hp.mem_iff.2 (h.qb j hj ht hd)
  rcases List.mem_cons.1 this with e | e
  · rw [← e] at hm; rw [hd] at hm; cases hm
  · exact e
theorem WaitI.take {s : GSt} {l l' l2 : List (Int × Int)} {m : Int × Int} (h : WaitI arcs tight s l) (hp : (m :: l').Perm l) (hmin : ∀ x ∈ l, leP m x) (hm : s.has (hdA arcs m.2) = false)
    (h2 : l2.Perm (newsQ arcs tight (hdA arcs m.2) tight.length ++ l')) : stepT arcs tight s = takeG arcs s m.2 ∧ m.2 ∈ tight ∧ s.has (tlA arcs m.2) = true ∧ WaitI arcs tight (takeG arcs s m.2) l2 := by
  obtain ⟨j, hj, hmj, ht⟩ := h.qa m (hp.mem_iff.1 (by simp))
  have hm2 : m.2 = tight.getD j 0 := by rw [hmj]
  have hg : tight.getD j 0 = tight[j] := by simp [List.getD_eq_getElem?_getD, hj]
  rw [← hm2] at ht
  have hfind : tight.find? (okT arcs s) = some m.2 := by
    rw [List.find?_eq_some_iff_getElem]
    refine ⟨by simp [okT, ht, hm], j, hj, by rw [hm2, hg], fun x hx => ?_⟩
    cases e : okT arcs s tight[x] with
    | false => rfl
    | true =>
      exfalso
      simp only [okT, Bool.and_eq_true, Bool.not_eq_true'] at e
      have hgx : tight.getD x 0 = tight[x] := by simp [List.getD_eq_getElem?_getD, show x < tight.length by omega]
      have := hmin _ (h.qb x (by omega) (by rw [hgx]; exact e.1) (by rw [hgx]; exact e.2))
      rw [leP_iff, hmj] at this
      simp only at this
      omega
  have hhas : ∀ u, (takeG arcs s m.2).has u = if u = hdA arcs m.2 then true else s.has u := fun u => by
    show setF s.has (hdA arcs m.2) true u = _
    by_cases e : u = hdA arcs m.2
    · subst e; rw [setF_same, if_pos rfl]
    · rw [setF_ne _ _ e, if_neg e]
  refine ⟨by rw [stepT, hfind], by rw [hm2, hg]; exact List.getElem_mem _, ht, fun p hq => ?_, fun x hx hxt hxd => ?_⟩
  · rcases List.mem_append.1 (h2.mem_iff.1 hq) with e | e
    · obtain ⟨x, a, b, c⟩ := mem_newsQ.1 e
      exact ⟨x, a, b, by rw [hhas, if_pos c]⟩
    · obtain ⟨x, a, b, c⟩ := h.qa p (hp.mem_iff.1 (List.mem_cons_of_mem _ e))
      exact ⟨x, a, b, by rw [hhas]; split; (· rfl); (· exact c)⟩
  · rw [hhas] at hxd
    split at hxd
    · cases hxd
    · rename_i hne
      rw [hhas] at hxt
      rw [h2.mem_iff, List.mem_append]
      split at hxt
      · rename_i e
        exact .inl (mem_newsQ.2 ⟨x, hx, rfl, e⟩)
      · right
        have := hp.mem_iff.2 (h.qb x hx hxt hxd)
        rcases List.mem_cons.1 this with e | e
        · exact absurd (by rw [← e]) hne
        · exact e
theorem iterT_stuck {k : Nat} (h : ∀ i ∈ tight, okT arcs (iterT arcs root tight k) i = false) (j : Nat) : iterT arcs root tight (k + j) = iterT arcs root tight k := by
  induction j with
  | zero => rfl
  | succ j ih =>
    rw [← Nat.add_assoc, iterT, ih, stepT]
    have : tight.find? (okT arcs (iterT arcs root tight k)) = none := by
      rw [List.find?_eq_none]
      intro i hi; simp [h i hi]
    rw [this]
end
end Go.Am
namespace Go.Am
open Go Go.Proofs
set_option linter.unusedVariables false
set_option linter.unusedSimpArgs false
variable {w0 : World}
attribute [local irreducible] AWP ACalls
attribute [local congr] acalls_congr
theorem QS.setB {H h : Heap} {Q P r : Nat} {l : List (Int × Int)} {b b' : Blk} (s : QS (upd H r (some b)) h Q P l) : QS (upd H r (some b')) (upd h r (some b')) Q P l := by
  have hQr : Q ≠ r := by rintro rfl; have := s.nQ; rw [upd_same] at this; cases this
  have nQ := s.nQ
  rw [upd_ne _ _ _ hQr] at nQ
  refine ⟨fun x k hx => ?_, by rw [upd_ne _ _ _ hQr]; exact nQ, s.heap, ?_⟩
  · by_cases e : x = r
    · subst e; rw [upd_same] at hx ⊢; exact hx
    · rw [upd_ne _ _ _ e] at hx ⊢
      exact s.sub x k (by rw [upd_ne _ _ _ e]; exact hx)
  · rcases s.st with ⟨e, hQ⟩ | ⟨top, cells, q⟩
    · exact .inl ⟨e, by rw [upd_ne _ _ _ hQr]; exact hQ⟩
    · have hPr : P ≠ r := by rintro rfl; have := q.nP; rw [upd_same] at this; cases this
      have nP := q.nP
      rw [upd_ne _ _ _ hPr] at nP
      exact .inr ⟨top, cells, by rw [upd_ne _ _ _ hPr]; exact nP, by rw [upd_ne _ _ _ hQr]; exact q.hQ, by rw [upd_ne _ _ _ hPr]; exact q.hP, q.cp, q.le, q.len, q.bd⟩
theorem QS.addB {H h : Heap} {Q P r : Nat} {l : List (Int × Int)} {b : Blk} (s : QS H h Q P l) (hr : h r = none) : QS (upd H r (some b)) (upd h r (some b)) Q P l := by
  have hQr : Q ≠ r := by
    rintro rfl
    rcases s.st with ⟨_, hQ⟩ | ⟨_, _, q⟩
    · rw [hr] at hQ; cases hQ
    · have := q.hQ; rw [hr] at this; cases this
  refine ⟨fun x k hx => ?_, by rw [upd_ne _ _ _ hQr]; exact s.nQ, s.heap, ?_⟩
  · by_cases e : x = r
    · subst e; rw [upd_same] at hx ⊢; exact hx
    · rw [upd_ne _ _ _ e] at hx ⊢
      exact s.sub x k hx
  · rcases s.st with ⟨e, hQ⟩ | ⟨top, cells, q⟩
    · exact .inl ⟨e, by rw [upd_ne _ _ _ hQr]; exact hQ⟩
    · have hPr : P ≠ r := by rintro rfl; have := q.hP; rw [hr] at this; cases this
      exact .inr ⟨top, cells, by rw [upd_ne _ _ _ hPr]; exact q.nP, by rw [upd_ne _ _ _ hQr]; exact q.hQ, by rw [upd_ne _ _ _ hPr]; exact q.hP, q.cp, q.le, q.len, q.bd⟩
set_option maxHeartbeats 2000000 in
theorem add_use {H h : Heap} {F T n b w Q P : Nat} {arcs : List (Int × Int)} {root v : Int} {tight : List Int} {rA cA : AV} {l : List (Int × Int)} (hr : NetR H F T n arcs root tight rA cA) (hb : H b = some (.box [.ptr F 0 0])) (hw : H w = some (.box [.ptr Q 0 0]))
    (ht : Plc arcs tight) (hm : arcs.length ≤ 64) (htl : tight.length ≤ 64) (qs : QS H h Q P l) (hl : l.length + 64 ≤ 4096) {K : AV → Heap → Prop}
    (k : ∀ P' l' h', QS H h' Q P' l' → l'.Perm (newsQ arcs tight v tight.length ++ l) → K (.tup []) h') :
    ACalls Try.prog w0 68 [I v, .ptr b 0 0, .ptr w 0 0] h K := by
  refine (?_ : ACalls Try.prog w0 68 [I v, .ptr b 0 0, .ptr w 0 0] h (fun x h' => x = .tup [] ∧ ∃ P' l', QS H h' Q P' l' ∧ l'.Perm (newsQ arcs tight v tight.length ++ l))).drop ?_
  rotate_left
  · rintro x h' ⟨rfl, P', l', a, c⟩
    exact ⟨_, .refl _, k P' l' h' a c⟩
  clear k K
  have hF0 := qs.sub _ _ hr.hF
  have hb0 := qs.sub _ _ hb
  refine w_enter Try.func68 rfl Try.ntmps68 (ts := []) rfl (by simp) (by kernel_rfl) ?_
  repeat' (first
    | (with_reducible refine awp_skip ?_)
    | (with_reducible refine then_any ?_)
    | (with_reducible refine then_ret ?_)
    | (with_reducible refine then_exit ?_)
    | (with_reducible refine inBlock_normal ?_)
    | (with_reducible refine inBlock_ret ?_)
    | (with_reducible refine inBlock_hit ?_)
    | (with_reducible refine inBlock_miss (by decide) ?_)
    | (with_reducible refine awp_ret ?_)
    | (with_reducible refine awp_exit ?_)
    | (with_reducible refine post_ret ?_)
    | (with_reducible refine post_normal ?_)
    | (with_reducible refine awp_block ?_)
    | (with_reducible refine awp_scope_ret ?_)
    | (with_reducible refine awp_label ?_)
    | (with_reducible refine v_reg [] (fun K hK => ?_))
    | (with_reducible refine v_reg1 [] (fun K hK => ?_))
    | (with_reducible refine v_draw mixed [] [] (by kernel_rfl) (fun K hK => ?_))
    | (with_reducible refine v_draw1 mixed [] [] (by kernel_rfl) (fun K hK => ?_))
    | (with_reducible refine ev_nil (hK _ _ ?_); clear hK K)
    | (with_reducible refine ed_nil (hK _ _ ?_); clear hK K)
    | ((first | with_reducible refine ev_cons (fun K' hK' => ?_) | with_reducible refine ed_cons (fun K' hK' => ?_) | (with_reducible refine ev_id ?_; refine ev_guard rfl (fun K' hK' => ?_)) | (with_reducible refine ed_id ?_; refine ed_guard rfl (fun K' hK' => ?_))); simp [hF0, hb0, -lenK, tAV_lenK, slE]; repeat' (first | (with_reducible refine hK' _ _ ?_; clear hK' K') | (with_reducible refine And.intro ?_ ?_) | (with_reducible intro hg) | (clear hK' K'; omega)))
    | (with_reducible refine w_cond (fun A B hA hB => ?_); simp [hF0, hb0, -lenK, tAV_lenK, slE]; repeat' (first | (with_reducible refine hA ?_; clear hA hB A B) | (with_reducible refine hB ?_; clear hA hB A B) | (with_reducible refine And.intro ?_ ?_) | (with_reducible intro hc)))
    | (with_reducible refine awp_seq ?_))
  refine awp_loop (fun env h' => ∃ (k P' : Nat) (l' : List (Int × Int)), k ≤ tight.length ∧ QS H h' Q P' l' ∧ l'.Perm (newsQ arcs tight v k ++ l) ∧ env 11 = I k ∧ env 10 = I tight.length ∧ env 9 = tAV T tight ∧ env 0 = I v ∧ env 1 = .ptr b 0 0 ∧ env 2 = .ptr w 0 0) (fun env _ => tight.length - natA (env 11)) ?_ ?_
  · exact ⟨0, P, l, by omega, qs, .refl _, by simp, by simp, by simp, by simp, by simp, by simp⟩
  clear qs hF0 hb0
  rintro env h' ⟨k, P', l', hk, qs, hp, h11, h10, h9, h0, h1, h2⟩
  have hnat : natA (env 11) = k := by simp [h11]
  rw [hnat]; clear hnat
  by_cases hlt : k < tight.length
  · have hne : tight ≠ [] := by rintro rfl; simp at hlt
    have hF := qs.sub _ _ hr.hF
    have hb' := qs.sub _ _ hb
    have hw' := qs.sub _ _ hw
    have hT := qs.sub _ _ (hr.hT hne)
    rw [tAV_ref T hne] at h9
    obtain ⟨i0, i1⟩ := ht tight[k] (List.getElem_mem _)
    have hil : tight[k].toNat < arcs.length := by omega
    have hpp := pairs_at hil
    rw [tlA_get hil, hdA_get hil, show ((tight[k].toNat : Nat) : Int) = tight[k] by omega] at hpp
    have hll := hp.length_eq
    have hnl := newsQ_length (arcs := arcs) (tight := tight) v k
    rw [List.length_append] at hll
    have hg : tight.getD k 0 = tight[k] := by simp [List.getD_eq_getElem?_getD, hlt]
    have hnx : newsQ arcs tight v (k + 1) = newsQ arcs tight v k ++ if tlA arcs tight[k] = v then [((k : Int), tight[k])] else [] := by rw [newsQ, hg]
    have hgi : ∀ h : k < tight.length, tight[k]'h = tight[k] := fun _ => rfl
    by_cases e : tlA arcs tight[k] = v
    · rw [if_pos e] at hnx
      repeat' (first
        | (with_reducible refine awp_skip ?_)
        | (with_reducible refine then_any ?_)
        | (with_reducible refine then_ret ?_)
        | (with_reducible refine then_exit ?_)
        | (with_reducible refine inBlock_normal ?_)
        | (with_reducible refine inBlock_ret ?_)
        | (with_reducible refine inBlock_hit ?_)
        | (with_reducible refine inBlock_miss (by decide) ?_)
        | (with_reducible refine awp_ret ?_)
        | (with_reducible refine awp_exit ?_)
        | (with_reducible refine post_ret ?_)
        | (with_reducible refine post_normal ?_)
        | (with_reducible refine awp_block ?_)
        | (with_reducible refine awp_scope_ret ?_)
        | (with_reducible refine awp_label ?_)
        | (with_reducible refine v_reg [] (fun K hK => ?_))
        | (with_reducible refine v_reg1 [] (fun K hK => ?_))
        | (with_reducible refine v_draw mixed [] [] (by kernel_rfl) (fun K hK => ?_))
        | (with_reducible refine v_draw1 mixed [] [] (by kernel_rfl) (fun K hK => ?_))
        | (with_reducible refine ev_nil (hK _ _ ?_); clear hK K)
        | (with_reducible refine ed_nil (hK _ _ ?_); clear hK K)
        | ((first | with_reducible refine ev_cons (fun K' hK' => ?_) | with_reducible refine ed_cons (fun K' hK' => ?_) | (with_reducible refine ev_id ?_; refine ev_guard rfl (fun K' hK' => ?_)) | (with_reducible refine ed_id ?_; refine ed_guard rfl (fun K' hK' => ?_))); simp [h11, h10, h9, h0, h1, h2, hF, hb', hw', hT, hlt, i0, hil, pairs, pairs_len, sum2, hpp.1, hpp.2.1, hpp.2.2, e]; repeat' (first | (with_reducible refine hK' _ _ ?_; clear hK' K') | ((with_reducible refine queuePush_use qs (by omega) (fun P2 l2 h2' a1 a2 => ?_)); try simp [h11, h10, h9, h0, h1, h2, hF, hb', hw', hT, hlt, i0, hil, pairs, pairs_len, sum2, hpp.1, hpp.2.1, hpp.2.2, e]) | (with_reducible refine And.intro ?_ ?_) | (with_reducible intro hg) | (clear hK' K'; omega)))
        | (with_reducible refine w_cond (fun A B hA hB => ?_); simp [h11, h10, h9, h0, h1, h2, hF, hb', hw', hT, hlt, i0, hil, pairs, pairs_len, sum2, hpp.1, hpp.2.1, hpp.2.2, e]; repeat' (first | (with_reducible refine hA ?_; clear hA hB A B) | (with_reducible refine hB ?_; clear hA hB A B) | (with_reducible refine And.intro ?_ ?_) | (with_reducible intro hc)))
        | (with_reducible refine awp_seq ?_))
      refine ⟨⟨k + 1, P2, l2, by omega, a1, ?_, by simp, by simp [h10], by simp [h9, tAV_ref T hne], by simp [h0], by simp [h1], by simp [h2]⟩, by simp; omega⟩
      rw [hnx, List.append_assoc]
      exact a2.trans ((hp.cons _).trans (List.perm_middle.symm.trans (.of_eq (by simp))))
    · rw [if_neg e, List.append_nil] at hnx
      repeat' (first
        | (with_reducible refine awp_skip ?_)
        | (with_reducible refine then_any ?_)
        | (with_reducible refine then_ret ?_)
        | (with_reducible refine then_exit ?_)
        | (with_reducible refine inBlock_normal ?_)
        | (with_reducible refine inBlock_ret ?_)
        | (with_reducible refine inBlock_hit ?_)
        | (with_reducible refine inBlock_miss (by decide) ?_)
        | (with_reducible refine awp_ret ?_)
        | (with_reducible refine awp_exit ?_)
        | (with_reducible refine post_ret ?_)
        | (with_reducible refine post_normal ?_)
        | (with_reducible refine awp_block ?_)
        | (with_reducible refine awp_scope_ret ?_)
        | (with_reducible refine awp_label ?_)
        | (with_reducible refine v_reg [] (fun K hK => ?_))
        | (with_reducible refine v_reg1 [] (fun K hK => ?_))
        | (with_reducible refine v_draw mixed [] [] (by kernel_rfl) (fun K hK => ?_))
        | (with_reducible refine v_draw1 mixed [] [] (by kernel_rfl) (fun K hK => ?_))
        | (with_reducible refine ev_nil (hK _ _ ?_); clear hK K)
        | (with_reducible refine ed_nil (hK _ _ ?_); clear hK K)
        | ((first | with_reducible refine ev_cons (fun K' hK' => ?_) | with_reducible refine ed_cons (fun K' hK' => ?_) | (with_reducible refine ev_id ?_; refine ev_guard rfl (fun K' hK' => ?_)) | (with_reducible refine ed_id ?_; refine ed_guard rfl (fun K' hK' => ?_))); simp [h11, h10, h9, h0, h1, h2, hF, hb', hw', hT, hlt, i0, hil, pairs, pairs_len, sum2, hpp.1, hpp.2.1, hpp.2.2, e]; repeat' (first | (with_reducible refine hK' _ _ ?_; clear hK' K') | (with_reducible refine And.intro ?_ ?_) | (with_reducible intro hg) | (clear hK' K'; omega)))
        | (with_reducible refine w_cond (fun A B hA hB => ?_); simp [h11, h10, h9, h0, h1, h2, hF, hb', hw', hT, hlt, i0, hil, pairs, pairs_len, sum2, hpp.1, hpp.2.1, hpp.2.2, e]; repeat' (first | (with_reducible refine hA ?_; clear hA hB A B) | (with_reducible refine hB ?_; clear hA hB A B) | (with_reducible refine And.intro ?_ ?_) | (with_reducible intro hc)))
        | (with_reducible refine awp_seq ?_))
      exact ⟨⟨k + 1, P', l', by omega, qs, by rw [hnx]; exact hp, by simp, by simp [h10], by simp [h9, tAV_ref T hne], by simp [h0], by simp [h1], by simp [h2]⟩, by simp; omega⟩
  · have : k = tight.length := by omega
    subst this
    repeat' (first
      | (with_reducible refine awp_skip ?_)
      | (with_reducible refine then_any ?_)
      | (with_reducible refine then_ret ?_)
      | (with_reducible refine then_exit ?_)
      | (with_reducible refine inBlock_normal ?_)
      | (with_reducible refine inBlock_ret ?_)
      | (with_reducible refine inBlock_hit ?_)
      | (with_reducible refine inBlock_miss (by decide) ?_)
      | (with_reducible refine awp_ret ?_)
      | (with_reducible refine awp_exit ?_)
      | (with_reducible refine post_ret ?_)
      | (with_reducible refine post_normal ?_)
      | (with_reducible refine awp_block ?_)
      | (with_reducible refine awp_scope_ret ?_)
      | (with_reducible refine awp_label ?_)
      | (with_reducible refine v_reg [] (fun K hK => ?_))
      | (with_reducible refine v_reg1 [] (fun K hK => ?_))
      | (with_reducible refine v_draw mixed [] [] (by kernel_rfl) (fun K hK => ?_))
      | (with_reducible refine v_draw1 mixed [] [] (by kernel_rfl) (fun K hK => ?_))
      | (with_reducible refine ev_nil (hK _ _ ?_); clear hK K)
      | (with_reducible refine ed_nil (hK _ _ ?_); clear hK K)
      | ((first | with_reducible refine ev_cons (fun K' hK' => ?_) | with_reducible refine ed_cons (fun K' hK' => ?_) | (with_reducible refine ev_id ?_; refine ev_guard rfl (fun K' hK' => ?_)) | (with_reducible refine ed_id ?_; refine ed_guard rfl (fun K' hK' => ?_))); simp [h11, h10]; repeat' (first | (with_reducible refine hK' _ _ ?_; clear hK' K') | (with_reducible refine And.intro ?_ ?_) | (with_reducible intro hg) | (clear hK' K'; omega)))
      | (with_reducible refine w_cond (fun A B hA hB => ?_); simp [h11, h10]; repeat' (first | (with_reducible refine hA ?_; clear hA hB A B) | (with_reducible refine hB ?_; clear hA hB A B) | (with_reducible refine And.intro ?_ ?_) | (with_reducible intro hc)))
      | (with_reducible refine awp_seq ?_))
    exact ⟨by simp [resA], P', l', qs, hp⟩
set_option maxHeartbeats 4000000 in
theorem grow_at {H : Heap} {F T n : Nat} {arcs : List (Int × Int)} {root : Int} {tight : List Int} {rA cA : AV} (N : NetA n arcs root) (hr : NetR H F T n arcs root tight rA cA) (ht : Plc arcs tight) (htl : tight.length ≤ 64) :
    RetAt Try.prog w0 52 [.ptr F 0 0] (ints (growT arcs root tight n)) H := by
  refine .of ?_
  have hn := N.nle
  have hm := N.mle
  have hrt := N.root
  have hF := hr.hF
  refine w_enter Try.func52 rfl Try.ntmps52 (ts := [2]) rfl (by simp) (by kernel_rfl) ?_ |> ret_frz
  repeat' (first
    | (with_reducible refine awp_skip ?_)
    | (with_reducible refine then_any ?_)
    | (with_reducible refine then_ret ?_)
    | (with_reducible refine then_exit ?_)
    | (with_reducible refine inBlock_normal ?_)
    | (with_reducible refine inBlock_ret ?_)
    | (with_reducible refine inBlock_hit ?_)
    | (with_reducible refine inBlock_miss (by decide) ?_)
    | (with_reducible refine awp_ret ?_)
    | (with_reducible refine awp_exit ?_)
    | (with_reducible refine post_ret ?_)
    | (with_reducible refine post_normal ?_)
    | (with_reducible refine awp_block ?_)
    | (with_reducible refine awp_scope_ret ?_)
    | (with_reducible refine awp_label ?_)
    | ((fail_if_success (with_reducible refine at_reg 1 ?_)); with_reducible refine v_reg [] (fun K hK => ?_))
    | ((fail_if_success (with_reducible refine (?_ : AWP _ _ _ (Code.region 1 _ _) _ _ _))); with_reducible refine v_reg1 [] (fun K hK => ?_))
    | ((fail_if_success (with_reducible refine at_reg 1 ?_)); with_reducible refine v_draw mixed [] [] (by kernel_rfl) (fun K hK => ?_))
    | ((fail_if_success (with_reducible refine (?_ : AWP _ _ _ (Code.region 1 _ _) _ _ _))); with_reducible refine v_draw1 mixed [] [] (by kernel_rfl) (fun K hK => ?_))
    | (with_reducible refine ev_nil (hK _ _ ?_); clear hK K)
    | (with_reducible refine ed_nil (hK _ _ ?_); clear hK K)
    | ((first | with_reducible refine ev_cons (fun K' hK' => ?_) | with_reducible refine ed_cons (fun K' hK' => ?_) | (with_reducible refine ev_id ?_; refine ev_guard rfl (fun K' hK' => ?_)) | (with_reducible refine ed_id ?_; refine ed_guard rfl (fun K' hK' => ?_))); simp; repeat' (first | (with_reducible refine hK' _ _ ?_; clear hK' K') | (with_reducible refine And.intro ?_ ?_) | (with_reducible intro hg) | (clear hK' K'; omega)))
    | (with_reducible refine w_cond (fun A B hA hB => ?_); simp; repeat' (first | (with_reducible refine hA ?_; clear hA hB A B) | (with_reducible refine hB ?_; clear hA hB A B) | (with_reducible refine And.intro ?_ ?_) | (with_reducible intro hc)))
    | ((fail_if_success (with_reducible refine at_reg 1 ?_)); with_reducible refine awp_seq ?_))
  rename_i b
  have hb : H b = none := hg
  clear hg
  have hFb : F ≠ b := fun e => by rw [e, hb] at hF; cases hF
  have hbF : b ≠ F := Ne.symm hFb
  repeat' (first
    | (with_reducible refine awp_skip ?_)
    | (with_reducible refine then_any ?_)
    | (with_reducible refine then_ret ?_)
    | (with_reducible refine then_exit ?_)
    | (with_reducible refine inBlock_normal ?_)
    | (with_reducible refine inBlock_ret ?_)
    | (with_reducible refine inBlock_hit ?_)
    | (with_reducible refine inBlock_miss (by decide) ?_)
    | (with_reducible refine awp_ret ?_)
    | (with_reducible refine awp_exit ?_)
    | (with_reducible refine post_ret ?_)
    | (with_reducible refine post_normal ?_)
    | (with_reducible refine awp_block ?_)
    | (with_reducible refine awp_scope_ret ?_)
    | (with_reducible refine awp_label ?_)
    | ((fail_if_success (with_reducible refine at_reg 3 ?_)); with_reducible refine v_reg [] (fun K hK => ?_))
    | ((fail_if_success (with_reducible refine (?_ : AWP _ _ _ (Code.region 3 _ _) _ _ _))); with_reducible refine v_reg1 [] (fun K hK => ?_))
    | ((fail_if_success (with_reducible refine at_reg 3 ?_)); with_reducible refine v_draw mixed [] [] (by kernel_rfl) (fun K hK => ?_))
    | ((fail_if_success (with_reducible refine (?_ : AWP _ _ _ (Code.region 3 _ _) _ _ _))); with_reducible refine v_draw1 mixed [] [] (by kernel_rfl) (fun K hK => ?_))
    | (with_reducible refine ev_nil (hK _ _ ?_); clear hK K)
    | (with_reducible refine ed_nil (hK _ _ ?_); clear hK K)
    | ((first | with_reducible refine ev_cons (fun K' hK' => ?_) | with_reducible refine ed_cons (fun K' hK' => ?_) | (with_reducible refine ev_id ?_; refine ev_guard rfl (fun K' hK' => ?_)) | (with_reducible refine ed_id ?_; refine ed_guard rfl (fun K' hK' => ?_))); simp [hF, hFb, hbF]; repeat' (first | (with_reducible refine hK' _ _ ?_; clear hK' K') | ((with_reducible refine new_use (fun Q hQ => ?_)); try simp [hF, hFb, hbF]) | (with_reducible refine And.intro ?_ ?_) | (with_reducible intro hg) | (clear hK' K'; omega)))
    | (with_reducible refine w_cond (fun A B hA hB => ?_); simp [hF, hFb, hbF]; repeat' (first | (with_reducible refine hA ?_; clear hA hB A B) | (with_reducible refine hB ?_; clear hA hB A B) | (with_reducible refine And.intro ?_ ?_) | (with_reducible intro hc)))
    | ((fail_if_success (with_reducible refine at_reg 3 ?_)); with_reducible refine awp_seq ?_))
  rename_i w
  have hQb : Q ≠ b := by rintro rfl; simp at hQ
  have hQn : H Q = none := by rw [upd_ne _ _ _ hQb] at hQ; exact hQ
  have hwQ : w ≠ Q := by rintro rfl; simp at hg
  have hwb : w ≠ b := by
    rintro rfl
    rw [if_neg hwQ] at hg
    simp at hg
  have hwn : H w = none := by rw [if_neg hwQ] at hg; simpa [hwb] using hg
  clear hg
  have hFw : F ≠ w := fun e => by rw [e, hwn] at hF; cases hF
  have hFQ : F ≠ Q := fun e => by rw [e, hQn] at hF; cases hF
  -- what lies apart from the queue
  obtain ⟨H1, hH1⟩ : ∃ H1, H1 = upd (upd H b (some (.box [.ptr F 0 0]))) w (some (.box [.ptr Q 0 0])) := ⟨_, rfl⟩
  have hb1 : H1 b = some (.box [.ptr F 0 0]) := by rw [hH1, upd_ne _ _ _ (Ne.symm hwb), upd_same]
  have hw1 : H1 w = some (.box [.ptr Q 0 0]) := by rw [hH1, upd_same]
  have hsub1 : Sub H H1 := by rw [hH1]; exact ((Sub.refl H).upd hb _).upd hwn _
  have hr1 : NetR H1 F T n arcs root tight rA cA := ⟨hsub1 _ _ hF, fun e => hsub1 _ _ (hr.hT e)⟩
  have hQ1 : H1 Q = none := by rw [hH1, upd_ne _ _ _ (Ne.symm hwQ), upd_ne _ _ _ hQb]; exact hQn
  have qs0 : QS H1 (upd H1 Q (some (.box [.sc (.slice none 0 0)]))) Q 0 [] := ⟨sub_new hQ1, hQ1, fun k k0 hk => by simp at hk, .inl ⟨rfl, upd_same _ _ _⟩⟩
  have hheap : upd (upd (upd H b (some (.box [.ptr F 0 0]))) Q (some (.box [.sc (.slice none 0 0)]))) w (some (.box [.ptr Q 0 0])) = upd H1 Q (some (.box [.sc (.slice none 0 0)])) := by
    rw [hH1, upd_comm _ _ _ (Ne.symm hwQ)]
  rw [hheap]
  clear hheap hH1
  have hbQ : b ≠ Q := Ne.symm hQb
  have hF1' := hr1.hF
  repeat' (first
    | (with_reducible refine awp_skip ?_)
    | (with_reducible refine then_any ?_)
    | (with_reducible refine then_ret ?_)
    | (with_reducible refine then_exit ?_)
    | (with_reducible refine inBlock_normal ?_)
    | (with_reducible refine inBlock_ret ?_)
    | (with_reducible refine inBlock_hit ?_)
    | (with_reducible refine inBlock_miss (by decide) ?_)
    | (with_reducible refine awp_ret ?_)
    | (with_reducible refine awp_exit ?_)
    | (with_reducible refine post_ret ?_)
    | (with_reducible refine post_normal ?_)
    | (with_reducible refine awp_block ?_)
    | (with_reducible refine awp_scope_ret ?_)
    | (with_reducible refine awp_label ?_)
    | ((fail_if_success (with_reducible refine at_reg 5 ?_)); with_reducible refine v_reg [6] (fun K hK => ?_))
    | ((fail_if_success (with_reducible refine (?_ : AWP _ _ _ (Code.region 5 _ _) _ _ _))); with_reducible refine v_reg1 [6] (fun K hK => ?_))
    | ((fail_if_success (with_reducible refine at_reg 5 ?_)); with_reducible refine v_draw mixed [6] [] (by kernel_rfl) (fun K hK => ?_))
    | ((fail_if_success (with_reducible refine (?_ : AWP _ _ _ (Code.region 5 _ _) _ _ _))); with_reducible refine v_draw1 mixed [6] [] (by kernel_rfl) (fun K hK => ?_))
    | (with_reducible refine ev_nil (hK _ _ ?_); clear hK K)
    | (with_reducible refine ed_nil (hK _ _ ?_); clear hK K)
    | ((first | with_reducible refine ev_cons (fun K' hK' => ?_) | with_reducible refine ed_cons (fun K' hK' => ?_) | (with_reducible refine ev_id ?_; refine ev_guard rfl (fun K' hK' => ?_)) | (with_reducible refine ed_id ?_; refine ed_guard rfl (fun K' hK' => ?_))); simp [hF1', hFQ, hbQ, hb1, hw1]; repeat' (first | (with_reducible refine hK' _ _ ?_; clear hK' K') | ((with_reducible refine add_use hr1 hb1 hw1 ht hm htl qs0 (by simp) (fun P l h' qs hp => ?_)); try simp [hF1', hFQ, hbQ, hb1, hw1]) | (with_reducible refine And.intro ?_ ?_) | (with_reducible intro hg) | (clear hK' K'; omega)))
    | (with_reducible refine w_cond (fun A B hA hB => ?_); simp [hF1', hFQ, hbQ, hb1, hw1]; repeat' (first | (with_reducible refine hA ?_; clear hA hB A B) | (with_reducible refine hB ?_; clear hA hB A B) | (with_reducible refine And.intro ?_ ?_) | (with_reducible intro hc)))
    | ((fail_if_success (with_reducible refine at_reg 5 ?_)); with_reducible refine awp_seq ?_))
  have hF2 := qs.sub _ _ hF1'
  have hb2 := qs.sub _ _ hb1
  have hw2 := qs.sub _ _ hw1
  repeat' (first
    | (with_reducible refine awp_skip ?_)
    | (with_reducible refine then_any ?_)
    | (with_reducible refine then_ret ?_)
    | (with_reducible refine then_exit ?_)
    | (with_reducible refine inBlock_normal ?_)
    | (with_reducible refine inBlock_ret ?_)
    | (with_reducible refine inBlock_hit ?_)
    | (with_reducible refine inBlock_miss (by decide) ?_)
    | (with_reducible refine awp_ret ?_)
    | (with_reducible refine awp_exit ?_)
    | (with_reducible refine post_ret ?_)
    | (with_reducible refine post_normal ?_)
    | (with_reducible refine awp_block ?_)
    | (with_reducible refine awp_scope_ret ?_)
    | (with_reducible refine awp_label ?_)
    | (with_reducible refine v_reg [6] (fun K hK => ?_))
    | (with_reducible refine v_reg1 [6] (fun K hK => ?_))
    | (with_reducible refine v_draw mixed [6] [] (by kernel_rfl) (fun K hK => ?_))
    | (with_reducible refine v_draw1 mixed [6] [] (by kernel_rfl) (fun K hK => ?_))
    | (with_reducible refine ev_nil (hK _ _ ?_); clear hK K)
    | (with_reducible refine ed_nil (hK _ _ ?_); clear hK K)
    | ((first | with_reducible refine ev_cons (fun K' hK' => ?_) | with_reducible refine ed_cons (fun K' hK' => ?_) | (with_reducible refine ev_id ?_; refine ev_guard rfl (fun K' hK' => ?_)) | (with_reducible refine ed_id ?_; refine ed_guard rfl (fun K' hK' => ?_))); simp; repeat' (first | (with_reducible refine hK' _ _ ?_; clear hK' K') | (with_reducible refine And.intro ?_ ?_) | (with_reducible intro hg) | (clear hK' K'; omega)))
    | (with_reducible refine w_cond (fun A B hA hB => ?_); simp; repeat' (first | (with_reducible refine hA ?_; clear hA hB A B) | (with_reducible refine hB ?_; clear hA hB A B) | (with_reducible refine And.intro ?_ ?_) | (with_reducible intro hc)))
    | (with_reducible refine awp_seq ?_))
  rename_i r
  have hr0 : h' r = none := hg
  clear hg
  have hr1n : H1 r = none := sub_free qs.sub hr0
  have hHr : H r = none := sub_free hsub1 hr1n
  have hFr : F ≠ r := fun e => by rw [e, hr1n] at hF1'; cases hF1'
  have hbr : b ≠ r := fun e => by rw [e, hr1n] at hb1; cases hb1
  have hwr : w ≠ r := fun e => by rw [e, hr1n] at hw1; cases hw1
  have hr2 : ∀ blk, NetR (upd H1 r (some blk)) F T n arcs root tight rA cA := fun blk => ⟨by rw [upd_ne _ _ _ hFr]; exact hr1.hF, fun e => by
    have := hr1.hT e
    rw [upd_ne _ _ _ (fun e' => by rw [e', hr1n] at this; cases this)]; exact this⟩
  have hb2' : ∀ blk, (upd H1 r (some blk)) b = some (.box [.ptr F 0 0]) := fun blk => by rw [upd_ne _ _ _ hbr]; exact hb1
  have hw2' : ∀ blk, (upd H1 r (some blk)) w = some (.box [.ptr Q 0 0]) := fun blk => by rw [upd_ne _ _ _ hwr]; exact hw1
  have hsub2 : ∀ blk, Sub H (upd H1 r (some blk)) := fun blk => hsub1.upd hHr _
  have hI := fun k => GInv.iterT N ht (tight := tight) k
  have hnl := fun v => newsQ_length (arcs := arcs) (tight := tight) v tight.length
  refine awp_loop_g (fun m env h => ∃ (k P : Nat) (hs : List Int) (l : List (Int × Int)), m = (n - (k + 1)) * 100 + l.length ∧ k < n ∧ (iterT arcs root tight k).out.length = k ∧ WaitI arcs tight (iterT arcs root tight k) l ∧ l.length ≤ 64 * (k + 1) ∧
      Pts n hs ∧ hs.length = k + 1 ∧ (∀ u, u ∈ hs ↔ (iterT arcs root tight k).has u = true) ∧ QS (upd H1 r (some (.arr 1 3 ((iterT arcs root tight k).out.map I) k))) h Q P l ∧
      env 1 = .ptr b 0 0 ∧ env 3 = ints hs ∧ env 4 = .ptr w 0 0 ∧ env 5 = .clo 68 [] [.ptr b 0 0, .ptr w 0 0] ∧ env 6 = .ref r 0 k k) ?_ ?_
  · have hp' : l.Perm (newsQ arcs tight root tight.length) := by simpa using hp
    have hll := hp'.length_eq
    have := hnl root
    refine ⟨_, 0, P, [root], l, rfl, by omega, rfl, .start hp', by omega, ⟨.one (by omega), by simpa using hrt⟩, rfl, fun u => ?_, qs.addB hr0, by simp, by simp [ints], by simp, by simp, by simp⟩
    show u ∈ [root] ↔ setF (fun _ => false) root true u = true
    by_cases e : u = root
    · subst e; simp [setF_same]
    · rw [setF_ne _ _ e]; simp [e]
  clear qs hp hF2 hb2 hw2 hr0
  clear h' P l
  rintro m env h ⟨k, P, hs, l, hm', hkn, hol, hW, hll, hps, hsl, hmem, qs, h1, h3, h4, h5, h6⟩
  have hF2 := qs.sub _ _ (hr2 _).hF
  have hb2 := qs.sub _ _ (hb2' _)
  have hw2 := qs.sub _ _ (hw2' _)
  have hrb := qs.sub r _ (upd_same _ _ _)
  have hIk := hI k
  have hend : (∀ i ∈ tight, okT arcs (iterT arcs root tight k) i = false) ∨ k + 1 = n → growT arcs root tight n = sortI (iterT arcs root tight k).out := by
    intro hor
    have e : iterT arcs root tight (n - 1) = iterT arcs root tight k := by
      rcases hor with h | h
      · have := iterT_stuck (k := k) h (n - 1 - k)
        rwa [show k + (n - 1 - k) = n - 1 by omega] at this
      · rw [show n - 1 = k by omega]
    rw [growT, e, sortI_set hIk.nodup hIk.rng]
  by_cases hfull : k + 1 = n
  · have hgl := hend (.inr hfull)
    have hcast : ¬ ((hs.length : Int) < n) := by omega
    have hcast3 : ¬ ((k : Int) + 1 < n) := by omega
    repeat' (first
      | (with_reducible refine awp_skip ?_)
      | (with_reducible refine then_any ?_)
      | (with_reducible refine then_ret ?_)
      | (with_reducible refine then_exit ?_)
      | (with_reducible refine inBlock_normal ?_)
      | (with_reducible refine inBlock_ret ?_)
      | (with_reducible refine inBlock_hit ?_)
      | (with_reducible refine inBlock_miss (by decide) ?_)
      | (with_reducible refine awp_ret ?_)
      | (with_reducible refine awp_exit ?_)
      | (with_reducible refine post_ret ?_)
      | (with_reducible refine post_normal ?_)
      | (with_reducible refine awp_block ?_)
      | (with_reducible refine awp_scope_ret ?_)
      | (with_reducible refine awp_label ?_)
      | ((fail_if_success (with_reducible refine at_reg 14 ?_)); with_reducible refine v_reg [] (fun K hK => ?_))
      | ((fail_if_success (with_reducible refine (?_ : AWP _ _ _ (Code.region 14 _ _) _ _ _))); with_reducible refine v_reg1 [] (fun K hK => ?_))
      | ((fail_if_success (with_reducible refine at_reg 14 ?_)); with_reducible refine v_draw mixed [] [] (by kernel_rfl) (fun K hK => ?_))
      | ((fail_if_success (with_reducible refine (?_ : AWP _ _ _ (Code.region 14 _ _) _ _ _))); with_reducible refine v_draw1 mixed [] [] (by kernel_rfl) (fun K hK => ?_))
      | (with_reducible refine ev_nil (hK _ _ ?_); clear hK K)
      | (with_reducible refine ed_nil (hK _ _ ?_); clear hK K)
      | ((first | with_reducible refine ev_cons (fun K' hK' => ?_) | with_reducible refine ed_cons (fun K' hK' => ?_) | (with_reducible refine ev_id ?_; refine ev_guard rfl (fun K' hK' => ?_)) | (with_reducible refine ed_id ?_; refine ed_guard rfl (fun K' hK' => ?_))); simp [h1, h3, h4, h5, h6, hF2, hb2, hw2, ints, hcast, hcast3, hsl]; repeat' (first | (with_reducible refine hK' _ _ ?_; clear hK' K') | (with_reducible refine And.intro ?_ ?_) | (with_reducible intro hg) | (clear hK' K'; omega)))
      | (with_reducible refine w_cond (fun A B hA hB => ?_); simp [h1, h3, h4, h5, h6, hF2, hb2, hw2, ints, hcast, hcast3, hsl]; repeat' (first | (with_reducible refine hA ?_; clear hA hB A B) | (with_reducible refine hB ?_; clear hA hB A B) | (with_reducible refine And.intro ?_ ?_) | (with_reducible intro hc)))
      | ((fail_if_success (with_reducible refine at_reg 14 ?_)); with_reducible refine awp_seq ?_))
    have hsn : Sub H (upd h r none) := ((hsub2 _).trans qs.sub).upd hHr _
    obtain ⟨h0, hh0⟩ : ∃ h0, h = upd h0 r (some (.arr 1 3 ((iterT arcs root tight k).out.map I) k)) := ⟨h, by rw [← hrb, upd_self]⟩
    clear qs hF2 hb2 hw2 hrb
    subst hh0
    rw [upd_upd] at hsn
    generalize (iterT arcs root tight k).out = o at *
    by_cases hpos : 0 < k
    · repeat' (first
        | (with_reducible refine awp_skip ?_)
        | (with_reducible refine then_any ?_)
        | (with_reducible refine then_ret ?_)
        | (with_reducible refine then_exit ?_)
        | (with_reducible refine inBlock_normal ?_)
        | (with_reducible refine inBlock_ret ?_)
        | (with_reducible refine inBlock_hit ?_)
        | (with_reducible refine inBlock_miss (by decide) ?_)
        | (with_reducible refine awp_ret ?_)
        | (with_reducible refine awp_exit ?_)
        | (with_reducible refine post_ret ?_)
        | (with_reducible refine post_normal ?_)
        | (with_reducible refine awp_block ?_)
        | (with_reducible refine awp_scope_ret ?_)
        | (with_reducible refine awp_label ?_)
        | (with_reducible refine v_reg [] (fun K hK => ?_))
        | (with_reducible refine v_reg1 [] (fun K hK => ?_))
        | (with_reducible refine v_draw mixed [] [] (by kernel_rfl) (fun K hK => ?_))
        | (with_reducible refine v_draw1 mixed [] [] (by kernel_rfl) (fun K hK => ?_))
        | (with_reducible refine ev_nil (hK _ _ ?_); clear hK K)
        | (with_reducible refine ed_nil (hK _ _ ?_); clear hK K)
        | ((first | with_reducible refine ev_cons (fun K' hK' => ?_) | with_reducible refine ed_cons (fun K' hK' => ?_) | (with_reducible refine ev_id ?_; refine ev_guard rfl (fun K' hK' => ?_)) | (with_reducible refine ed_id ?_; refine ed_guard rfl (fun K' hK' => ?_))); simp [h6]; repeat' (first | (with_reducible refine hK' _ _ ?_; clear hK' K') | ((with_reducible refine sort_use (c := o) hol (Nat.le_refl _) hpos (by omega) (fun c hc1 hc2 => ?_)); try simp [h6]) | (with_reducible refine And.intro ?_ ?_) | (with_reducible intro hg) | (clear hK' K'; omega)))
        | (with_reducible refine w_cond (fun A B hA hB => ?_); simp [h6]; repeat' (first | (with_reducible refine hA ?_; clear hA hB A B) | (with_reducible refine hB ?_; clear hA hB A B) | (with_reducible refine And.intro ?_ ?_) | (with_reducible intro hc)))
        | (with_reducible refine awp_seq ?_))
      refine .inr ⟨r, 0, k, k, 1, 3, c.map I, by simp, upd_same _ _ _, ?_, by rw [upd_upd]; exact hsn⟩
      have hcs : c = sortI o := by rwa [List.take_of_length_le (by omega), List.take_of_length_le (by omega)] at hc2
      rw [← hc1, cut_map, hgl, ← hcs]
      try simp [ints]
    · have hz0 : k = 0 := by omega
      have hnil : o = [] := List.length_eq_zero_iff.1 (by omega)
      subst hz0
      subst hnil
      repeat' (first
        | (with_reducible refine awp_skip ?_)
        | (with_reducible refine then_any ?_)
        | (with_reducible refine then_ret ?_)
        | (with_reducible refine then_exit ?_)
        | (with_reducible refine inBlock_normal ?_)
        | (with_reducible refine inBlock_ret ?_)
        | (with_reducible refine inBlock_hit ?_)
        | (with_reducible refine inBlock_miss (by decide) ?_)
        | (with_reducible refine awp_ret ?_)
        | (with_reducible refine awp_exit ?_)
        | (with_reducible refine post_ret ?_)
        | (with_reducible refine post_normal ?_)
        | (with_reducible refine awp_block ?_)
        | (with_reducible refine awp_scope_ret ?_)
        | (with_reducible refine awp_label ?_)
        | (with_reducible refine v_reg [] (fun K hK => ?_))
        | (with_reducible refine v_reg1 [] (fun K hK => ?_))
        | (with_reducible refine v_draw mixed [] [] (by kernel_rfl) (fun K hK => ?_))
        | (with_reducible refine v_draw1 mixed [] [] (by kernel_rfl) (fun K hK => ?_))
        | (with_reducible refine ev_nil (hK _ _ ?_); clear hK K)
        | (with_reducible refine ed_nil (hK _ _ ?_); clear hK K)
        | ((first | with_reducible refine ev_cons (fun K' hK' => ?_) | with_reducible refine ed_cons (fun K' hK' => ?_) | (with_reducible refine ev_id ?_; refine ev_guard rfl (fun K' hK' => ?_)) | (with_reducible refine ed_id ?_; refine ed_guard rfl (fun K' hK' => ?_))); simp [h6]; repeat' (first | (with_reducible refine hK' _ _ ?_; clear hK' K') | (with_reducible refine Ret.use sort_none ?_; try simp [h6]) | (with_reducible refine And.intro ?_ ?_) | (with_reducible intro hg) | (clear hK' K'; omega)))
        | (with_reducible refine w_cond (fun A B hA hB => ?_); simp [h6]; repeat' (first | (with_reducible refine hA ?_; clear hA hB A B) | (with_reducible refine hB ?_; clear hA hB A B) | (with_reducible refine And.intro ?_ ?_) | (with_reducible intro hc)))
        | (with_reducible refine awp_seq ?_))
      refine .inr ⟨r, 0, 0, 0, 1, 3, [], by simp, by first | exact upd_same _ _ _ | (rw [upd_same]; rfl), ?_, by rw [upd_upd]; exact hsn⟩
      rw [hgl]
      simp [cut, sortI]
  · have hcast : ((hs.length : Int) < n) := by omega
    have hcast' : hs.length < n := by omega
    have hcast2 : k + 1 < n := by omega
    have hcast3 : (k : Int) + 1 < n := by omega
    by_cases hl0 : l = []
    · subst hl0
      have hgl := hend (.inl hW.empty)
      repeat' (first
        | (with_reducible refine awp_skip ?_)
        | (with_reducible refine then_any ?_)
        | (with_reducible refine then_ret ?_)
        | (with_reducible refine then_exit ?_)
        | (with_reducible refine inBlock_normal ?_)
        | (with_reducible refine inBlock_ret ?_)
        | (with_reducible refine inBlock_hit ?_)
        | (with_reducible refine inBlock_miss (by decide) ?_)
        | (with_reducible refine awp_ret ?_)
        | (with_reducible refine awp_exit ?_)
        | (with_reducible refine post_ret ?_)
        | (with_reducible refine post_normal ?_)
        | (with_reducible refine awp_block ?_)
        | (with_reducible refine awp_scope_ret ?_)
        | (with_reducible refine awp_label ?_)
        | ((fail_if_success (with_reducible refine at_reg 14 ?_)); with_reducible refine v_reg [] (fun K hK => ?_))
        | ((fail_if_success (with_reducible refine (?_ : AWP _ _ _ (Code.region 14 _ _) _ _ _))); with_reducible refine v_reg1 [] (fun K hK => ?_))
        | ((fail_if_success (with_reducible refine at_reg 14 ?_)); with_reducible refine v_draw mixed [] [] (by kernel_rfl) (fun K hK => ?_))
        | ((fail_if_success (with_reducible refine (?_ : AWP _ _ _ (Code.region 14 _ _) _ _ _))); with_reducible refine v_draw1 mixed [] [] (by kernel_rfl) (fun K hK => ?_))
        | (with_reducible refine ev_nil (hK _ _ ?_); clear hK K)
        | (with_reducible refine ed_nil (hK _ _ ?_); clear hK K)
        | ((first | with_reducible refine ev_cons (fun K' hK' => ?_) | with_reducible refine ed_cons (fun K' hK' => ?_) | (with_reducible refine ev_id ?_; refine ev_guard rfl (fun K' hK' => ?_)) | (with_reducible refine ed_id ?_; refine ed_guard rfl (fun K' hK' => ?_))); simp [h1, h3, h4, h5, h6, hF2, hb2, hw2, ints, hcast, hcast', hcast2, hcast3, hsl]; repeat' (first | (with_reducible refine hK' _ _ ?_; clear hK' K') | ((with_reducible refine queuePop_use qs (fun e => ?_) (fun m l' h2 a1 a2 a3 => absurd a2.length_eq (by simp))); try simp [h1, h3, h4, h5, h6, hF2, hb2, hw2, ints, hcast, hcast', hcast2, hcast3, hsl]) | (with_reducible refine And.intro ?_ ?_) | (with_reducible intro hg) | (clear hK' K'; omega)))
        | (with_reducible refine w_cond (fun A B hA hB => ?_); simp [h1, h3, h4, h5, h6, hF2, hb2, hw2, ints, hcast, hcast', hcast2, hcast3, hsl]; repeat' (first | (with_reducible refine hA ?_; clear hA hB A B) | (with_reducible refine hB ?_; clear hA hB A B) | (with_reducible refine And.intro ?_ ?_) | (with_reducible intro hc)))
        | ((fail_if_success (with_reducible refine at_reg 14 ?_)); with_reducible refine awp_seq ?_))
      have hsn : Sub H (upd h r none) := ((hsub2 _).trans qs.sub).upd hHr _
      obtain ⟨h0, hh0⟩ : ∃ h0, h = upd h0 r (some (.arr 1 3 ((iterT arcs root tight k).out.map I) k)) := ⟨h, by rw [← hrb, upd_self]⟩
      clear qs hF2 hb2 hw2 hrb
      subst hh0
      rw [upd_upd] at hsn
      generalize (iterT arcs root tight k).out = o at *
      by_cases hpos : 0 < k
      · repeat' (first
          | (with_reducible refine awp_skip ?_)
          | (with_reducible refine then_any ?_)
          | (with_reducible refine then_ret ?_)
          | (with_reducible refine then_exit ?_)
          | (with_reducible refine inBlock_normal ?_)
          | (with_reducible refine inBlock_ret ?_)
          | (with_reducible refine inBlock_hit ?_)
          | (with_reducible refine inBlock_miss (by decide) ?_)
          | (with_reducible refine awp_ret ?_)
          | (with_reducible refine awp_exit ?_)
          | (with_reducible refine post_ret ?_)
          | (with_reducible refine post_normal ?_)
          | (with_reducible refine awp_block ?_)
          | (with_reducible refine awp_scope_ret ?_)
          | (with_reducible refine awp_label ?_)
          | (with_reducible refine v_reg [] (fun K hK => ?_))
          | (with_reducible refine v_reg1 [] (fun K hK => ?_))
          | (with_reducible refine v_draw mixed [] [] (by kernel_rfl) (fun K hK => ?_))
          | (with_reducible refine v_draw1 mixed [] [] (by kernel_rfl) (fun K hK => ?_))
          | (with_reducible refine ev_nil (hK _ _ ?_); clear hK K)
          | (with_reducible refine ed_nil (hK _ _ ?_); clear hK K)
          | ((first | with_reducible refine ev_cons (fun K' hK' => ?_) | with_reducible refine ed_cons (fun K' hK' => ?_) | (with_reducible refine ev_id ?_; refine ev_guard rfl (fun K' hK' => ?_)) | (with_reducible refine ed_id ?_; refine ed_guard rfl (fun K' hK' => ?_))); simp [h6]; repeat' (first | (with_reducible refine hK' _ _ ?_; clear hK' K') | ((with_reducible refine sort_use (c := o) hol (Nat.le_refl _) hpos (by omega) (fun c hc1 hc2 => ?_)); try simp [h6]) | (with_reducible refine And.intro ?_ ?_) | (with_reducible intro hg) | (clear hK' K'; omega)))
          | (with_reducible refine w_cond (fun A B hA hB => ?_); simp [h6]; repeat' (first | (with_reducible refine hA ?_; clear hA hB A B) | (with_reducible refine hB ?_; clear hA hB A B) | (with_reducible refine And.intro ?_ ?_) | (with_reducible intro hc)))
          | (with_reducible refine awp_seq ?_))
        refine .inr ⟨r, 0, k, k, 1, 3, c.map I, by simp, upd_same _ _ _, ?_, by rw [upd_upd]; exact hsn⟩
        have hcs : c = sortI o := by rwa [List.take_of_length_le (by omega), List.take_of_length_le (by omega)] at hc2
        rw [← hc1, cut_map, hgl, ← hcs]
        try simp [ints]
      · have hz0 : k = 0 := by omega
        have hnil : o = [] := List.length_eq_zero_iff.1 (by omega)
        subst hz0
        subst hnil
        repeat' (first
          | (with_reducible refine awp_skip ?_)
          | (with_reducible refine then_any ?_)
          | (with_reducible refine then_ret ?_)
          | (with_reducible refine then_exit ?_)
          | (with_reducible refine inBlock_normal ?_)
          | (with_reducible refine inBlock_ret ?_)
          | (with_reducible refine inBlock_hit ?_)
          | (with_reducible refine inBlock_miss (by decide) ?_)
          | (with_reducible refine awp_ret ?_)
          | (with_reducible refine awp_exit ?_)
          | (with_reducible refine post_ret ?_)
          | (with_reducible refine post_normal ?_)
          | (with_reducible refine awp_block ?_)
          | (with_reducible refine awp_scope_ret ?_)
          | (with_reducible refine awp_label ?_)
          | (with_reducible refine v_reg [] (fun K hK => ?_))
          | (with_reducible refine v_reg1 [] (fun K hK => ?_))
          | (with_reducible refine v_draw mixed [] [] (by kernel_rfl) (fun K hK => ?_))
          | (with_reducible refine v_draw1 mixed [] [] (by kernel_rfl) (fun K hK => ?_))
          | (with_reducible refine ev_nil (hK _ _ ?_); clear hK K)
          | (with_reducible refine ed_nil (hK _ _ ?_); clear hK K)
          | ((first | with_reducible refine ev_cons (fun K' hK' => ?_) | with_reducible refine ed_cons (fun K' hK' => ?_) | (with_reducible refine ev_id ?_; refine ev_guard rfl (fun K' hK' => ?_)) | (with_reducible refine ed_id ?_; refine ed_guard rfl (fun K' hK' => ?_))); simp [h6]; repeat' (first | (with_reducible refine hK' _ _ ?_; clear hK' K') | (with_reducible refine Ret.use sort_none ?_; try simp [h6]) | (with_reducible refine And.intro ?_ ?_) | (with_reducible intro hg) | (clear hK' K'; omega)))
          | (with_reducible refine w_cond (fun A B hA hB => ?_); simp [h6]; repeat' (first | (with_reducible refine hA ?_; clear hA hB A B) | (with_reducible refine hB ?_; clear hA hB A B) | (with_reducible refine And.intro ?_ ?_) | (with_reducible intro hc)))
          | (with_reducible refine awp_seq ?_))
        refine .inr ⟨r, 0, 0, 0, 1, 3, [], by simp, by first | exact upd_same _ _ _ | (rw [upd_same]; rfl), ?_, by rw [upd_upd]; exact hsn⟩
        rw [hgl]
        simp [cut, sortI]
    · repeat' (first
        | (with_reducible refine awp_skip ?_)
        | (with_reducible refine then_any ?_)
        | (with_reducible refine then_ret ?_)
        | (with_reducible refine then_exit ?_)
        | (with_reducible refine inBlock_normal ?_)
        | (with_reducible refine inBlock_ret ?_)
        | (with_reducible refine inBlock_hit ?_)
        | (with_reducible refine inBlock_miss (by decide) ?_)
        | (with_reducible refine awp_ret ?_)
        | (with_reducible refine awp_exit ?_)
        | (with_reducible refine post_ret ?_)
        | (with_reducible refine post_normal ?_)
        | (with_reducible refine awp_block ?_)
        | (with_reducible refine awp_scope_ret ?_)
        | (with_reducible refine awp_label ?_)
        | ((fail_if_success (with_reducible refine at_reg 9 ?_)); with_reducible refine v_reg [] (fun K hK => ?_))
        | ((fail_if_success (with_reducible refine (?_ : AWP _ _ _ (Code.region 9 _ _) _ _ _))); with_reducible refine v_reg1 [] (fun K hK => ?_))
        | ((fail_if_success (with_reducible refine at_reg 9 ?_)); with_reducible refine v_draw mixed [] [] (by kernel_rfl) (fun K hK => ?_))
        | ((fail_if_success (with_reducible refine (?_ : AWP _ _ _ (Code.region 9 _ _) _ _ _))); with_reducible refine v_draw1 mixed [] [] (by kernel_rfl) (fun K hK => ?_))
        | (with_reducible refine ev_nil (hK _ _ ?_); clear hK K)
        | (with_reducible refine ed_nil (hK _ _ ?_); clear hK K)
        | ((first | with_reducible refine ev_cons (fun K' hK' => ?_) | with_reducible refine ed_cons (fun K' hK' => ?_) | (with_reducible refine ev_id ?_; refine ev_guard rfl (fun K' hK' => ?_)) | (with_reducible refine ed_id ?_; refine ed_guard rfl (fun K' hK' => ?_))); simp [h1, h3, h4, h5, h6, hF2, hb2, hw2, ints, hcast, hcast', hcast2, hcast3, hsl]; repeat' (first | (with_reducible refine hK' _ _ ?_; clear hK' K') | ((with_reducible refine queuePop_use qs (fun e => absurd e hl0) (fun p l' h2 a1 a2 a3 => ?_)); try simp [h1, h3, h4, h5, h6, hF2, hb2, hw2, ints, hcast, hcast', hcast2, hcast3, hsl]) | (with_reducible refine And.intro ?_ ?_) | (with_reducible intro hg) | (clear hK' K'; omega)))
        | (with_reducible refine w_cond (fun A B hA hB => ?_); simp [h1, h3, h4, h5, h6, hF2, hb2, hw2, ints, hcast, hcast', hcast2, hcast3, hsl]; repeat' (first | (with_reducible refine hA ?_; clear hA hB A B) | (with_reducible refine hB ?_; clear hA hB A B) | (with_reducible refine And.intro ?_ ?_) | (with_reducible intro hc)))
        | ((fail_if_success (with_reducible refine at_reg 9 ?_)); with_reducible refine awp_seq ?_))
      obtain ⟨j, hj, hpj, hpt⟩ := hW.qa p (a2.mem_iff.1 (by simp))
      have hgj : tight.getD j 0 = tight[j] := by simp [List.getD_eq_getElem?_getD, hj]
      have hp2 : p.2 = tight[j] := by rw [hpj, hgj]
      obtain ⟨i0, i1⟩ := ht tight[j] (List.getElem_mem _)
      rw [← hp2] at i0 i1
      obtain ⟨_, ⟨q0, qn⟩⟩ := N.ends p.2 i0 i1
      have hil : p.2.toNat < arcs.length := by omega
      have hpp := pairs_at hil
      rw [tlA_get hil, hdA_get hil, show ((p.2.toNat : Nat) : Int) = p.2 by omega] at hpp
      have hF3 := a1.sub _ _ (hr2 _).hF
      have hb3 := a1.sub _ _ (hb2' _)
      have hw3 := a1.sub _ _ (hw2' _)
      have hrb3 := a1.sub r _ (upd_same _ _ _)
      have hhas := has_is (w0 := w0) (l := hs) (x := hdA arcs p.2) (by omega) hps.set
      have hl'l := a2.length_eq
      rw [List.length_cons] at hl'l
      by_cases hd : hdA arcs p.2 ∈ hs
      · have hW2 := hW.skip a2 ((hmem _).1 hd)
        simp only [hd, decide_true, ints, hsl] at hhas
        repeat' (first
          | (with_reducible refine awp_skip ?_)
          | (with_reducible refine then_any ?_)
          | (with_reducible refine then_ret ?_)
          | (with_reducible refine then_exit ?_)
          | (with_reducible refine inBlock_normal ?_)
          | (with_reducible refine inBlock_ret ?_)
          | (with_reducible refine inBlock_hit ?_)
          | (with_reducible refine inBlock_miss (by decide) ?_)
          | (with_reducible refine awp_ret ?_)
          | (with_reducible refine awp_exit ?_)
          | (with_reducible refine post_ret ?_)
          | (with_reducible refine post_normal ?_)
          | (with_reducible refine awp_block ?_)
          | (with_reducible refine awp_scope_ret ?_)
          | (with_reducible refine awp_label ?_)
          | (with_reducible refine v_reg [] (fun K hK => ?_))
          | (with_reducible refine v_reg1 [] (fun K hK => ?_))
          | (with_reducible refine v_draw mixed [] [] (by kernel_rfl) (fun K hK => ?_))
          | (with_reducible refine v_draw1 mixed [] [] (by kernel_rfl) (fun K hK => ?_))
          | (with_reducible refine ev_nil (hK _ _ ?_); clear hK K)
          | (with_reducible refine ed_nil (hK _ _ ?_); clear hK K)
          | ((first | with_reducible refine ev_cons (fun K' hK' => ?_) | with_reducible refine ed_cons (fun K' hK' => ?_) | (with_reducible refine ev_id ?_; refine ev_guard rfl (fun K' hK' => ?_)) | (with_reducible refine ed_id ?_; refine ed_guard rfl (fun K' hK' => ?_))); simp [h1, h3, h4, h5, h6, hF3, hb3, hw3, ints, hsl, i0, hil, pairs, pairs_len, sum2, hpp.1, hpp.2.1, hpp.2.2, hd]; repeat' (first | (with_reducible refine hK' _ _ ?_; clear hK' K') | (with_reducible refine Ret.use hhas ?_; try simp [h1, h3, h4, h5, h6, hF3, hb3, hw3, ints, hsl, i0, hil, pairs, pairs_len, sum2, hpp.1, hpp.2.1, hpp.2.2, hd]) | (with_reducible refine And.intro ?_ ?_) | (with_reducible intro hg) | (clear hK' K'; omega)))
          | (with_reducible refine w_cond (fun A B hA hB => ?_); simp [h1, h3, h4, h5, h6, hF3, hb3, hw3, ints, hsl, i0, hil, pairs, pairs_len, sum2, hpp.1, hpp.2.1, hpp.2.2, hd]; repeat' (first | (with_reducible refine hA ?_; clear hA hB A B) | (with_reducible refine hB ?_; clear hA hB A B) | (with_reducible refine And.intro ?_ ?_) | (with_reducible intro hc)))
          | (with_reducible refine awp_seq ?_))
        exact ⟨(n - (k + 1)) * 100 + l'.length, by omega, k, P, hs, l', rfl, hkn, hol, hW2, by omega, hps, hsl, hmem, a1, by simp [h1], by simp [h3, ints], by simp [h4], by simp [h5], by simp [h6]⟩
      · simp only [hd, decide_false, ints, hsl] at hhas
        have hdf : (iterT arcs root tight k).has (hdA arcs p.2) = false := by
          cases e : (iterT arcs root tight k).has (hdA arcs p.2) with
          | false => rfl
          | true => exact absurd ((hmem _).2 e) hd
        have hun := union_ret (w0 := w0) (a := hs) (b := [hdA arcs p.2]) (by simp only [smLen]; omega) (by simp [smLen])
        have hone : IsSet [hdA arcs p.2] := .one (by omega)
        have hmu := fun x => mem_unionL (x := x) hps.set hone
        have hul : (unionL hs [hdA arcs p.2]).length = k + 2 := by
          have := len_union' hps.set hone
          have hz : (minusL hs [hdA arcs p.2]).length = hs.length := by
            rw [minusL_eq hps.set hone, List.filter_eq_self.2]
            intro x hx
            simp only [List.mem_singleton, Bool.not_eq_true', decide_eq_false_iff_not]
            rintro rfl
            exact hd hx
          simp at this
          omega
        simp only [ints, List.map_cons, List.map_nil, List.length_singleton, hsl, hul] at hun
        repeat' (first
          | (with_reducible refine awp_skip ?_)
          | (with_reducible refine then_any ?_)
          | (with_reducible refine then_ret ?_)
          | (with_reducible refine then_exit ?_)
          | (with_reducible refine inBlock_normal ?_)
          | (with_reducible refine inBlock_ret ?_)
          | (with_reducible refine inBlock_hit ?_)
          | (with_reducible refine inBlock_miss (by decide) ?_)
          | (with_reducible refine awp_ret ?_)
          | (with_reducible refine awp_exit ?_)
          | (with_reducible refine post_ret ?_)
          | (with_reducible refine post_normal ?_)
          | (with_reducible refine awp_block ?_)
          | (with_reducible refine awp_scope_ret ?_)
          | (with_reducible refine awp_label ?_)
          | ((fail_if_success (with_reducible refine at_reg 13 ?_)); with_reducible refine v_reg [] (fun K hK => ?_))
          | ((fail_if_success (with_reducible refine (?_ : AWP _ _ _ (Code.region 13 _ _) _ _ _))); with_reducible refine v_reg1 [] (fun K hK => ?_))
          | ((fail_if_success (with_reducible refine at_reg 13 ?_)); with_reducible refine v_draw mixed [] [] (by kernel_rfl) (fun K hK => ?_))
          | ((fail_if_success (with_reducible refine (?_ : AWP _ _ _ (Code.region 13 _ _) _ _ _))); with_reducible refine v_draw1 mixed [] [] (by kernel_rfl) (fun K hK => ?_))
          | (with_reducible refine ev_nil (hK _ _ ?_); clear hK K)
          | (with_reducible refine ed_nil (hK _ _ ?_); clear hK K)
          | ((first | with_reducible refine ev_cons (fun K' hK' => ?_) | with_reducible refine ed_cons (fun K' hK' => ?_) | (with_reducible refine ev_id ?_; refine ev_guard rfl (fun K' hK' => ?_)) | (with_reducible refine ed_id ?_; refine ed_guard rfl (fun K' hK' => ?_))); simp [h1, h3, h4, h5, h6, hF3, hb3, hw3, hrb3, ints, hsl, i0, hil, pairs, pairs_len, sum2, hpp.1, hpp.2.1, hpp.2.2, hd]; repeat' (first | (with_reducible refine hK' _ _ ?_; clear hK' K') | (with_reducible refine Ret.use hhas ?_; try simp [h1, h3, h4, h5, h6, hF3, hb3, hw3, hrb3, ints, hsl, i0, hil, pairs, pairs_len, sum2, hpp.1, hpp.2.1, hpp.2.2, hd]) | (with_reducible refine Ret.use hun ?_; try simp [h1, h3, h4, h5, h6, hF3, hb3, hw3, hrb3, ints, hsl, i0, hil, pairs, pairs_len, sum2, hpp.1, hpp.2.1, hpp.2.2, hd]) | (with_reducible refine And.intro ?_ ?_) | (with_reducible intro hg) | (clear hK' K'; omega)))
          | (with_reducible refine w_cond (fun A B hA hB => ?_); simp [h1, h3, h4, h5, h6, hF3, hb3, hw3, hrb3, ints, hsl, i0, hil, pairs, pairs_len, sum2, hpp.1, hpp.2.1, hpp.2.2, hd]; repeat' (first | (with_reducible refine hA ?_; clear hA hB A B) | (with_reducible refine hB ?_; clear hA hB A B) | (with_reducible refine And.intro ?_ ?_) | (with_reducible intro hc)))
          | ((fail_if_success (with_reducible refine at_reg 13 ?_)); with_reducible refine awp_seq ?_))
        have qs2 := a1.setB (b' := .arr 1 3 ((iterT arcs root tight k).out.map I ++ [I p.2]) (k + 1))
        have hF4 := qs2.sub _ _ (hr2 _).hF
        have hb4 := qs2.sub _ _ (hb2' _)
        repeat' (first
          | (with_reducible refine awp_skip ?_)
          | (with_reducible refine then_any ?_)
          | (with_reducible refine then_ret ?_)
          | (with_reducible refine then_exit ?_)
          | (with_reducible refine inBlock_normal ?_)
          | (with_reducible refine inBlock_ret ?_)
          | (with_reducible refine inBlock_hit ?_)
          | (with_reducible refine inBlock_miss (by decide) ?_)
          | (with_reducible refine awp_ret ?_)
          | (with_reducible refine awp_exit ?_)
          | (with_reducible refine post_ret ?_)
          | (with_reducible refine post_normal ?_)
          | (with_reducible refine awp_block ?_)
          | (with_reducible refine awp_scope_ret ?_)
          | (with_reducible refine awp_label ?_)
          | (with_reducible refine v_reg [] (fun K hK => ?_))
          | (with_reducible refine v_reg1 [] (fun K hK => ?_))
          | (with_reducible refine v_draw mixed [] [] (by kernel_rfl) (fun K hK => ?_))
          | (with_reducible refine v_draw1 mixed [] [] (by kernel_rfl) (fun K hK => ?_))
          | (with_reducible refine ev_nil (hK _ _ ?_); clear hK K)
          | (with_reducible refine ed_nil (hK _ _ ?_); clear hK K)
          | ((first | with_reducible refine ev_cons (fun K' hK' => ?_) | with_reducible refine ed_cons (fun K' hK' => ?_) | (with_reducible refine ev_id ?_; refine ev_guard rfl (fun K' hK' => ?_)) | (with_reducible refine ed_id ?_; refine ed_guard rfl (fun K' hK' => ?_))); simp [h5]; repeat' (first | (with_reducible refine hK' _ _ ?_; clear hK' K') | ((with_reducible refine add_use (hr2 _) (hb2' _) (hw2' _) ht hm htl qs2 (by omega) (fun P2 l2 h3' c1 c2 => ?_)); try simp [h5]) | (with_reducible refine And.intro ?_ ?_) | (with_reducible intro hg) | (clear hK' K'; omega)))
          | (with_reducible refine w_cond (fun A B hA hB => ?_); simp [h5]; repeat' (first | (with_reducible refine hA ?_; clear hA hB A B) | (with_reducible refine hB ?_; clear hA hB A B) | (with_reducible refine And.intro ?_ ?_) | (with_reducible intro hc)))
          | (with_reducible refine awp_seq ?_))
        obtain ⟨w1, w2, w3, w4⟩ := hW.take a2 a3 hdf c2
        have hst : iterT arcs root tight (k + 1) = takeG arcs (iterT arcs root tight k) p.2 := by rw [iterT, w1]
        have hout : (iterT arcs root tight (k + 1)).out = (iterT arcs root tight k).out ++ [p.2] := by rw [hst]; rfl
        have hc2l := c2.length_eq
        rw [List.length_append] at hc2l
        have hnl1 := hnl (hdA arcs p.2)
        refine ⟨(n - (k + 1 + 1)) * 100 + l2.length, by omega, k + 1, P2, unionL hs [hdA arcs p.2], l2, rfl, hcast2, by rw [hout, List.length_append, hol]; rfl, by rw [hst]; exact w4, by omega, ?_, hul, fun u => ?_, ?_, by simp [h1], by simp [ints, hul], by simp [h4], by simp [h5], by simp⟩
        · exact ⟨hps.set.union hone, fun x hx => by
            rcases (hmu x).1 hx with e | e
            · exact hps.lt x e
            · rw [List.mem_singleton] at e; rw [e]; exact ⟨q0, qn⟩⟩
        · rw [hmu, hst, List.mem_singleton]
          show _ ↔ setF (iterT arcs root tight k).has (hdA arcs p.2) true u = true
          by_cases e : u = hdA arcs p.2
          · subst e; simp [setF_same]
          · rw [setF_ne _ _ e, hmem]; simp [e]
        · rw [hout, List.map_append]
          exact c1
end Go.Am
namespace Go.Am
open Go Go.Proofs
set_option linter.unusedVariables false
set_option linter.unusedSimpArgs false
variable {w0 : World}
attribute [local irreducible] AWP ACalls
attribute [local congr] acalls_congr
def costF (cost : List Int) (i : Int) : Int := cost.getD i.toNat 0
def cutsA (cuts : List (List Int × Int)) : AV := .sl (cutCells cuts) cuts.length
def cheapA (n : Int) (arcs : List (Int × Int)) (cost : List Int) (root : Int) : List Int × List (List Int × Int) × Int :=
  if mayC n arcs cost root then match (runC arcs n.toNat root (costF cost)).2 with
    | none => (growT arcs root (runC arcs n.toNat root (costF cost)).1.tight n.toNat, (runC arcs n.toNat root (costF cost)).1.cuts, 0)
    | some s => ([], [(s, 0)], 190)
  else ([], [], 1)
def cheapV (r : List Int × List (List Int × Int) × Int) : AV := .tup [ints r.1, cutsA r.2.1, I r.2.2]
theorem labI_cost {cost : List Int} {m : Nat} (h : cost.length = m) : cost.map I = labI m (costF cost) := by
  refine List.ext_getElem (by simp [labI_length, h]) fun i h1 h2 => ?_
  have := labI_at (n := m) (f := costF cost) (x := (i : Int)) (by omega) (by simpa using h2)
  simp only [Int.toNat_natCast] at this
  rw [this]
  simp at h1
  simp [costF, h1]
theorem clone_nil : Ret Try.prog w0 50 [ints []] (ints []) := by
  intro H
  refine ret_frz ?_
  refine clone_use (l := []) (by simp) (fun _ => .inl ⟨rfl, .refl _⟩) (fun r hr => ?_)
  exact .inr ⟨r, 0, 0, 0, 1, 3, [], rfl, upd_same _ _ _, by simp [ints], by rw [upd_upd]; exact sub_new hr⟩
theorem cloneR_use {arcs : List (Int × Int)} {cost : List Int} (hl : cost.length ≤ 4096) (hm : cost.length = arcs.length) {H : Heap} {K : AV → Heap → Prop}
    (k : ∀ R h', Sub H h' → (arcs ≠ [] → H R = none ∧ h' R = some (.arr 1 3 (labI arcs.length (costF cost)) arcs.length)) → K (rAV R arcs) h') : ACalls Try.prog w0 50 [ints cost] H K := by
  by_cases e : arcs = []
  · have e2 : cost = [] := List.length_eq_zero_iff.1 (by rw [hm, e]; rfl)
    subst e2
    have := k 0 H (.refl _) (fun h => absurd e h)
    rw [rAV, if_pos e] at this
    exact clone_nil.use this
  · refine clone_use (by omega) (fun e' => ?_) (fun R hR => ?_)
    · exact absurd (List.length_eq_zero_iff.1 (by rw [← hm, e']; rfl)) e
    · have := k R (upd H R (some (.arr 1 3 (labI arcs.length (costF cost)) arcs.length))) (sub_new hR) (fun _ => ⟨hR, upd_same _ _ _⟩)
      rw [rAV, if_neg e] at this
      rw [labI_cost hm, hm]
      exact this
theorem cutCells_length (cuts : List (List Int × Int)) : (cutCells cuts).length = cuts.length * 2 := by
  induction cuts with
  | nil => rfl
  | cons c cuts ih => simp [cutCells] at ih ⊢; omega
theorem cut_cuts (cuts : List (List Int × Int)) : cut 2 (cutCells cuts) 0 cuts.length = cutsA cuts := by
  have := cutCells_length cuts
  simp [cut, cutsA, List.take_of_length_le, this]
set_option maxHeartbeats 4000000 in
theorem cheap_ret {n root : Int} {arcs : List (Int × Int)} {cost : List Int} (ha : okLen arcs) (hc : okLen cost) : Ret Try.prog w0 31 [I n, pairs arcs, ints cost, I root] (cheapV (cheapA n arcs cost root)) := by
  intro H
  have hmay := arborMay_ret (w0 := w0) (n := n) (root := root) ha hc
  rw [cheapA]
  refine w_enter Try.func31 rfl Try.ntmps31 (ts := [8, 9, 10]) rfl (by simp) (by kernel_rfl) ?_
  cases hM : mayC n arcs cost root with
  | false =>
    rw [hM] at hmay
    repeat' (first
      | (with_reducible refine awp_skip ?_)
      | (with_reducible refine then_any ?_)
      | (with_reducible refine then_ret ?_)
      | (with_reducible refine then_exit ?_)
      | (with_reducible refine inBlock_normal ?_)
      | (with_reducible refine inBlock_ret ?_)
      | (with_reducible refine inBlock_hit ?_)
      | (with_reducible refine inBlock_miss (by decide) ?_)
      | (with_reducible refine awp_ret ?_)
      | (with_reducible refine awp_exit ?_)
      | (with_reducible refine post_ret ?_)
      | (with_reducible refine post_normal ?_)
      | (with_reducible refine awp_block ?_)
      | (with_reducible refine awp_scope_ret ?_)
      | (with_reducible refine awp_label ?_)
      | (with_reducible refine v_reg [] (fun K hK => ?_))
      | (with_reducible refine v_reg1 [] (fun K hK => ?_))
      | (with_reducible refine v_draw mixed [] [] (by kernel_rfl) (fun K hK => ?_))
      | (with_reducible refine v_draw1 mixed [] [] (by kernel_rfl) (fun K hK => ?_))
      | (with_reducible refine ev_nil (hK _ _ ?_); clear hK K)
      | (with_reducible refine ed_nil (hK _ _ ?_); clear hK K)
      | ((first | with_reducible refine ev_cons (fun K' hK' => ?_) | with_reducible refine ed_cons (fun K' hK' => ?_) | (with_reducible refine ev_id ?_; refine ev_guard rfl (fun K' hK' => ?_)) | (with_reducible refine ed_id ?_; refine ed_guard rfl (fun K' hK' => ?_))); simp [pairs, ints]; repeat' (first | (with_reducible refine hK' _ _ ?_; clear hK' K') | (with_reducible refine Ret.use hmay ?_; try simp [pairs, ints]) | (with_reducible refine And.intro ?_ ?_) | (with_reducible intro hg) | (clear hK' K'; omega)))
      | (with_reducible refine w_cond (fun A B hA hB => ?_); simp [pairs, ints]; repeat' (first | (with_reducible refine hA ?_; clear hA hB A B) | (with_reducible refine hB ?_; clear hA hB A B) | (with_reducible refine And.intro ?_ ?_) | (with_reducible intro hc)))
      | (with_reducible refine awp_seq ?_))
    exact ⟨by simp [cheapV, ints, cutsA, cutCells], .refl _⟩
  | true =>
    rw [hM] at hmay
    simp only [if_true]
    have hM' := hM
    simp only [mayC, Bool.and_eq_true, decide_eq_true_eq] at hM'
    obtain ⟨⟨hA, hcl⟩, hco⟩ := hM'
    obtain ⟨m, rfl, hm1, N⟩ := mayA_net hA
    simp only [Int.toNat_natCast]
    have hn := N.nle
    have hml := N.mle
    have hcb : ∀ i : Int, 0 ≤ i → i < arcs.length → -2147483648 ≤ costF cost i ∧ costF cost i ≤ 2147483648 := by
      intro i i0 i1
      have hi : i.toNat < cost.length := by omega
      have := List.all_eq_true.1 hco cost[i.toNat] (List.getElem_mem _)
      simp only [costOk, Bool.and_eq_true, decide_eq_true_eq] at this
      simp only [costF, List.getD_eq_getElem?_getD, List.getElem?_eq_getElem hi, Option.getD_some]
      exact this
    have hone : ∀ R, AV.one (rAV R arcs) = true := fun R => by unfold rAV; split <;> rfl
    have hmay' := hmay
    simp only [pairs, ints] at hmay'
    repeat' (first
      | (with_reducible refine awp_skip ?_)
      | (with_reducible refine then_any ?_)
      | (with_reducible refine then_ret ?_)
      | (with_reducible refine then_exit ?_)
      | (with_reducible refine inBlock_normal ?_)
      | (with_reducible refine inBlock_ret ?_)
      | (with_reducible refine inBlock_hit ?_)
      | (with_reducible refine inBlock_miss (by decide) ?_)
      | (with_reducible refine awp_ret ?_)
      | (with_reducible refine awp_exit ?_)
      | (with_reducible refine post_ret ?_)
      | (with_reducible refine post_normal ?_)
      | (with_reducible refine awp_block ?_)
      | (with_reducible refine awp_scope_ret ?_)
      | (with_reducible refine awp_label ?_)
      | (with_reducible refine v_reg [] (fun K hK => ?_))
      | (with_reducible refine v_reg1 [] (fun K hK => ?_))
      | (with_reducible refine v_draw mixed [] [] (by kernel_rfl) (fun K hK => ?_))
      | (with_reducible refine v_draw1 mixed [] [] (by kernel_rfl) (fun K hK => ?_))
      | (with_reducible refine ev_nil (hK _ _ ?_); clear hK K)
      | (with_reducible refine ed_nil (hK _ _ ?_); clear hK K)
      | ((first | with_reducible refine ev_cons (fun K' hK' => ?_) | with_reducible refine ed_cons (fun K' hK' => ?_) | (with_reducible refine ev_id ?_; refine ev_guard rfl (fun K' hK' => ?_)) | (with_reducible refine ed_id ?_; refine ed_guard rfl (fun K' hK' => ?_))); simp [hone]; repeat' (first | (with_reducible refine hK' _ _ ?_; clear hK' K') | (with_reducible refine Ret.use hmay ?_; try simp [hone]) | ((with_reducible refine cloneR_use (by omega) hcl (fun R h' hsub hR => ?_)); try simp [hone]) | (with_reducible refine And.intro ?_ ?_) | (with_reducible intro hg) | (clear hK' K'; omega)))
      | (with_reducible refine w_cond (fun A B hA hB => ?_); simp [hone]; repeat' (first | (with_reducible refine hA ?_; clear hA hB A B) | (with_reducible refine hB ?_; clear hA hB A B) | (with_reducible refine And.intro ?_ ?_) | (with_reducible intro hc)))
      | (with_reducible refine awp_seq ?_))
    · by_cases e : arcs = [] <;> simp [rAV, e]
    · by_cases e : arcs = [] <;> simp [rAV, e]
    · by_cases e : arcs = [] <;> simp [rAV, e]
    rename_i F
    have hF0 : h' F = none := by assumption
    generalize hcc : List.set (setL _ _ _) 3 (I root) = cc
    have hcc' : cc = [I m, pairs arcs, rAV R arcs, I root, .sc (.slice none 0 0), .sc (.slice none 0 0)] := by
      rw [← hcc]; by_cases e : arcs = [] <;> simp [rAV, e]
    clear hcc
    subst hcc'
    have hs0 : NetS H (upd h' F (some (.box [I m, pairs arcs, rAV R arcs, I root, .sc (.slice none 0 0), .sc (.slice none 0 0)]))) F R 0 0 m arcs root ⟨costF cost, [], []⟩ :=
      ⟨hsub.upd (sub_free hsub hF0) _, sub_free hsub hF0, by rw [upd_same]; rfl, fun e => ⟨(hR e).1, by
        have := (hR e).2
        rw [upd_ne _ _ _ (fun e' => by rw [e', hF0] at this; cases this)]; exact this⟩, fun e => absurd rfl e, fun e => absurd rfl e⟩
    have hrun : runC arcs m root (costF cost) = runA arcs m root (arcs.length + 1) ⟨costF cost, [], []⟩ := rfl
    generalize hrc : runC arcs m root (costF cost) = rc at *
    refine awp_loop_g (fun mm env h => ∃ (st : ASt) (T C f : Nat), mm = arcs.length + 1 - st.tight.length ∧ NetS H h F R T C m arcs root st ∧ AKnow arcs m root (costF cost) st ∧ st.cuts.length ≤ st.tight.length ∧ arcs.length < f + st.tight.length ∧ rc = runA arcs m root f st ∧ env 11 = .ptr F 0 0) ?_ ?_
    · exact ⟨_, ⟨costF cost, [], []⟩, 0, 0, arcs.length + 1, rfl, hs0, ⟨.start _, .start _⟩, by simp, by simp, hrun, by simp⟩
    clear hs0 hrun hmay hmay' hR hF0 hsub
    rintro mm env h ⟨st, T, C, f, hmm, hs, hk, hct, hf, hrun, h11⟩
    have htl := hk.inv.tight_le
    have hplc := hk.inv.plc
    have hnx := next_at (w0 := w0) N hs.read hplc (by omega)
    have hgr := grow_at (w0 := w0) N hs.read hplc (by omega)
    obtain ⟨f, rfl⟩ : ∃ f', f = f' + 1 := ⟨f - 1, by omega⟩
    rw [runA] at hrun
    cases hN : nxtL arcs st.tight m root with
    | none =>
      rw [hN] at hnx hrun
      simp only [nextAns] at hnx
      simp only at hrun
      have hF := hs.hF
      repeat' (first
        | (with_reducible refine awp_skip ?_)
        | (with_reducible refine then_any ?_)
        | (with_reducible refine then_ret ?_)
        | (with_reducible refine then_exit ?_)
        | (with_reducible refine inBlock_normal ?_)
        | (with_reducible refine inBlock_ret ?_)
        | (with_reducible refine inBlock_hit ?_)
        | (with_reducible refine inBlock_miss (by decide) ?_)
        | (with_reducible refine awp_ret ?_)
        | (with_reducible refine awp_exit ?_)
        | (with_reducible refine post_ret ?_)
        | (with_reducible refine post_normal ?_)
        | (with_reducible refine awp_block ?_)
        | (with_reducible refine awp_scope_ret ?_)
        | (with_reducible refine awp_label ?_)
        | ((fail_if_success (with_reducible refine at_reg 6 ?_)); with_reducible refine v_reg [] (fun K hK => ?_))
        | ((fail_if_success (with_reducible refine (?_ : AWP _ _ _ (Code.region 6 _ _) _ _ _))); with_reducible refine v_reg1 [] (fun K hK => ?_))
        | ((fail_if_success (with_reducible refine at_reg 6 ?_)); with_reducible refine v_draw mixed [] [] (by kernel_rfl) (fun K hK => ?_))
        | ((fail_if_success (with_reducible refine (?_ : AWP _ _ _ (Code.region 6 _ _) _ _ _))); with_reducible refine v_draw1 mixed [] [] (by kernel_rfl) (fun K hK => ?_))
        | (with_reducible refine ev_nil (hK _ _ ?_); clear hK K)
        | (with_reducible refine ed_nil (hK _ _ ?_); clear hK K)
        | ((first | with_reducible refine ev_cons (fun K' hK' => ?_) | with_reducible refine ed_cons (fun K' hK' => ?_) | (with_reducible refine ev_id ?_; refine ev_guard rfl (fun K' hK' => ?_)) | (with_reducible refine ed_id ?_; refine ed_guard rfl (fun K' hK' => ?_))); simp [h11]; repeat' (first | (with_reducible refine hK' _ _ ?_; clear hK' K') | ((with_reducible refine RetAt.use hnx ?_); try simp [h11]) | (with_reducible refine And.intro ?_ ?_) | (with_reducible intro hg) | (clear hK' K'; omega)))
        | (with_reducible refine w_cond (fun A B hA hB => ?_); simp [h11]; repeat' (first | (with_reducible refine hA ?_; clear hA hB A B) | (with_reducible refine hB ?_; clear hA hB A B) | (with_reducible refine And.intro ?_ ?_) | (with_reducible intro hc)))
        | ((fail_if_success (with_reducible refine at_reg 6 ?_)); with_reducible refine awp_seq ?_))
      refine v_draw_perm mixed [] [39] [0, 2, 3, 4, 5, 1, 6, 7, 8] (by kernel_rfl) (fun K hK => ?_)
      simp only [List.filterMap_cons, List.filterMap_nil, List.getElem?_cons_succ, List.getElem?_cons_zero]
      by_cases hc0 : st.cuts = []
      · rw [hc0, cAV, if_pos rfl] at hF
        repeat' (first
          | (with_reducible refine awp_skip ?_)
          | (with_reducible refine then_any ?_)
          | (with_reducible refine then_ret ?_)
          | (with_reducible refine then_exit ?_)
          | (with_reducible refine inBlock_normal ?_)
          | (with_reducible refine inBlock_ret ?_)
          | (with_reducible refine inBlock_hit ?_)
          | (with_reducible refine inBlock_miss (by decide) ?_)
          | (with_reducible refine awp_ret ?_)
          | (with_reducible refine awp_exit ?_)
          | (with_reducible refine post_ret ?_)
          | (with_reducible refine post_normal ?_)
          | (with_reducible refine awp_block ?_)
          | (with_reducible refine awp_scope_ret ?_)
          | (with_reducible refine awp_label ?_)
          | (with_reducible refine v_reg [] (fun K hK => ?_))
          | (with_reducible refine v_reg1 [] (fun K hK => ?_))
          | (with_reducible refine v_draw mixed [] [39] (by kernel_rfl) (fun K hK => ?_))
          | (with_reducible refine v_draw1 mixed [] [39] (by kernel_rfl) (fun K hK => ?_))
          | (with_reducible refine ev_nil (hK _ _ ?_); clear hK K)
          | (with_reducible refine ed_nil (hK _ _ ?_); clear hK K)
          | ((first | with_reducible refine ev_cons (fun K' hK' => ?_) | with_reducible refine ed_cons (fun K' hK' => ?_) | (with_reducible refine ev_id ?_; refine ev_guard rfl (fun K' hK' => ?_)) | (with_reducible refine ed_id ?_; refine ed_guard rfl (fun K' hK' => ?_))); simp [h11, hF, boxes, Blk.isArr, KeepsBox.refl]; repeat' (first | (with_reducible refine hK' _ _ ?_; clear hK' K') | ((with_reducible refine RetAt.use hgr ?_); try simp [h11, hF, boxes, Blk.isArr, KeepsBox.refl]) | (with_reducible refine And.intro ?_ ?_) | (with_reducible intro hg) | (clear hK' K'; omega)))
          | (with_reducible refine w_cond (fun A B hA hB => ?_); simp [h11, hF, boxes, Blk.isArr, KeepsBox.refl]; repeat' (first | (with_reducible refine hA ?_; clear hA hB A B) | (with_reducible refine hB ?_; clear hA hB A B) | (with_reducible refine And.intro ?_ ?_) | (with_reducible intro hc)))
          | (with_reducible refine awp_seq ?_))
        rw [hrun]
        exact ⟨by simp [cheapV, hc0, cutsA, cutCells], hs.sub⟩
      · rw [cAV, if_neg hc0] at hF
        repeat' (first
          | (with_reducible refine awp_skip ?_)
          | (with_reducible refine then_any ?_)
          | (with_reducible refine then_ret ?_)
          | (with_reducible refine then_exit ?_)
          | (with_reducible refine inBlock_normal ?_)
          | (with_reducible refine inBlock_ret ?_)
          | (with_reducible refine inBlock_hit ?_)
          | (with_reducible refine inBlock_miss (by decide) ?_)
          | (with_reducible refine awp_exit ?_)
          | (with_reducible refine post_ret ?_)
          | (with_reducible refine post_normal ?_)
          | (with_reducible refine awp_block ?_)
          | (with_reducible refine awp_scope_ret ?_)
          | (with_reducible refine awp_label ?_)
          | (with_reducible refine v_reg [] (fun K hK => ?_))
          | (with_reducible refine v_reg1 [] (fun K hK => ?_))
          | (with_reducible refine v_draw mixed [] [39] (by kernel_rfl) (fun K hK => ?_))
          | (with_reducible refine v_draw1 mixed [] [39] (by kernel_rfl) (fun K hK => ?_))
          | (with_reducible refine ev_nil (hK _ _ ?_); clear hK K)
          | (with_reducible refine ed_nil (hK _ _ ?_); clear hK K)
          | ((first | with_reducible refine ev_cons (fun K' hK' => ?_) | with_reducible refine ed_cons (fun K' hK' => ?_) | (with_reducible refine ev_id ?_; refine ev_guard rfl (fun K' hK' => ?_)) | (with_reducible refine ed_id ?_; refine ed_guard rfl (fun K' hK' => ?_))); simp [h11, hF, boxes, Blk.isArr, KeepsBox.refl]; repeat' (first | (with_reducible refine hK' _ _ ?_; clear hK' K') | ((with_reducible refine RetAt.use hgr ?_); try simp [h11, hF, boxes, Blk.isArr, KeepsBox.refl]) | (with_reducible refine And.intro ?_ ?_) | (with_reducible intro hg) | (clear hK' K'; omega)))
          | (with_reducible refine w_cond (fun A B hA hB => ?_); simp [h11, hF, boxes, Blk.isArr, KeepsBox.refl]; repeat' (first | (with_reducible refine hA ?_; clear hA hB A B) | (with_reducible refine hB ?_; clear hA hB A B) | (with_reducible refine And.intro ?_ ?_) | (with_reducible intro hc)))
          | (with_reducible refine awp_seq ?_))
        refine awp_freeze 9 (r := C) (off := 0) (len := st.cuts.length) (top := st.cuts.length) (by simp) (hs.hC hc0).2 ?_
        rw [cut_cuts]
        repeat' (first
          | (with_reducible refine awp_skip ?_)
          | (with_reducible refine then_any ?_)
          | (with_reducible refine then_ret ?_)
          | (with_reducible refine then_exit ?_)
          | (with_reducible refine inBlock_normal ?_)
          | (with_reducible refine inBlock_ret ?_)
          | (with_reducible refine inBlock_hit ?_)
          | (with_reducible refine inBlock_miss (by decide) ?_)
          | (with_reducible refine awp_ret ?_)
          | (with_reducible refine awp_exit ?_)
          | (with_reducible refine post_ret ?_)
          | (with_reducible refine post_normal ?_)
          | (with_reducible refine awp_block ?_)
          | (with_reducible refine awp_scope_ret ?_)
          | (with_reducible refine awp_label ?_)
          | (with_reducible refine v_reg [] (fun K hK => ?_))
          | (with_reducible refine v_reg1 [] (fun K hK => ?_))
          | (with_reducible refine v_draw mixed [] [] (by kernel_rfl) (fun K hK => ?_))
          | (with_reducible refine v_draw1 mixed [] [] (by kernel_rfl) (fun K hK => ?_))
          | (with_reducible refine ev_nil (hK _ _ ?_); clear hK K)
          | (with_reducible refine ed_nil (hK _ _ ?_); clear hK K)
          | ((first | with_reducible refine ev_cons (fun K' hK' => ?_) | with_reducible refine ed_cons (fun K' hK' => ?_) | (with_reducible refine ev_id ?_; refine ev_guard rfl (fun K' hK' => ?_)) | (with_reducible refine ed_id ?_; refine ed_guard rfl (fun K' hK' => ?_))); simp; repeat' (first | (with_reducible refine hK' _ _ ?_; clear hK' K') | (with_reducible refine And.intro ?_ ?_) | (with_reducible intro hg) | (clear hK' K'; omega)))
          | (with_reducible refine w_cond (fun A B hA hB => ?_); simp; repeat' (first | (with_reducible refine hA ?_; clear hA hB A B) | (with_reducible refine hB ?_; clear hA hB A B) | (with_reducible refine And.intro ?_ ?_) | (with_reducible intro hc)))
          | (with_reducible refine awp_seq ?_))
        rw [hrun]
        exact ⟨by simp [cheapV, cutsA], hs.sub.upd (hs.hC hc0).1 _⟩
    | some s =>
      rw [hN] at hnx hrun
      simp only [nextAns] at hnx
      simp only at hrun
      have hT := next_some N hplc hN
      have hsl := hT.pts.length
      by_cases he : entA arcs no0 s = []
      · rw [if_pos he] at hrun
        repeat' (first
          | (with_reducible refine awp_skip ?_)
          | (with_reducible refine then_any ?_)
          | (with_reducible refine then_ret ?_)
          | (with_reducible refine then_exit ?_)
          | (with_reducible refine inBlock_normal ?_)
          | (with_reducible refine inBlock_ret ?_)
          | (with_reducible refine inBlock_hit ?_)
          | (with_reducible refine inBlock_miss (by decide) ?_)
          | (with_reducible refine awp_ret ?_)
          | (with_reducible refine awp_exit ?_)
          | (with_reducible refine post_ret ?_)
          | (with_reducible refine post_normal ?_)
          | (with_reducible refine awp_block ?_)
          | (with_reducible refine awp_scope_ret ?_)
          | (with_reducible refine awp_label ?_)
          | (with_reducible refine v_reg [] (fun K hK => ?_))
          | (with_reducible refine v_reg1 [] (fun K hK => ?_))
          | (with_reducible refine v_draw mixed [] [] (by kernel_rfl) (fun K hK => ?_))
          | (with_reducible refine v_draw1 mixed [] [] (by kernel_rfl) (fun K hK => ?_))
          | (with_reducible refine ev_nil (hK _ _ ?_); clear hK K)
          | (with_reducible refine ed_nil (hK _ _ ?_); clear hK K)
          | ((first | with_reducible refine ev_cons (fun K' hK' => ?_) | with_reducible refine ed_cons (fun K' hK' => ?_) | (with_reducible refine ev_id ?_; refine ev_guard rfl (fun K' hK' => ?_)) | (with_reducible refine ed_id ?_; refine ed_guard rfl (fun K' hK' => ?_))); simp [h11]; repeat' (first | (with_reducible refine hK' _ _ ?_; clear hK' K') | ((with_reducible refine RetAt.use hnx ?_); try simp [h11]) | ((with_reducible refine pay_use (s := s) N hs (by simp only [okLen]; omega) (fun i i0 i1 => by have := ABnd.rest hk.inv hk.bnd hcb i i0 i1; omega) (by omega) (by omega) (fun _ => ?_) (fun e => absurd he e)); try simp [h11]) | (with_reducible refine And.intro ?_ ?_) | (with_reducible intro hg) | (clear hK' K'; omega)))
          | (with_reducible refine w_cond (fun A B hA hB => ?_); simp [h11]; repeat' (first | (with_reducible refine hA ?_; clear hA hB A B) | (with_reducible refine hB ?_; clear hA hB A B) | (with_reducible refine And.intro ?_ ?_) | (with_reducible intro hc)))
          | (with_reducible refine awp_seq ?_))
        rw [hrun]
        exact ⟨by simp [cheapV, cutsA, cutCells, ints], hs.sub⟩
      · rw [if_neg he] at hrun
        repeat' (first
          | (with_reducible refine awp_skip ?_)
          | (with_reducible refine then_any ?_)
          | (with_reducible refine then_ret ?_)
          | (with_reducible refine then_exit ?_)
          | (with_reducible refine inBlock_normal ?_)
          | (with_reducible refine inBlock_ret ?_)
          | (with_reducible refine inBlock_hit ?_)
          | (with_reducible refine inBlock_miss (by decide) ?_)
          | (with_reducible refine awp_ret ?_)
          | (with_reducible refine awp_exit ?_)
          | (with_reducible refine post_ret ?_)
          | (with_reducible refine post_normal ?_)
          | (with_reducible refine awp_block ?_)
          | (with_reducible refine awp_scope_ret ?_)
          | (with_reducible refine awp_label ?_)
          | (with_reducible refine v_reg [] (fun K hK => ?_))
          | (with_reducible refine v_reg1 [] (fun K hK => ?_))
          | (with_reducible refine v_draw mixed [] [] (by kernel_rfl) (fun K hK => ?_))
          | (with_reducible refine v_draw1 mixed [] [] (by kernel_rfl) (fun K hK => ?_))
          | (with_reducible refine ev_nil (hK _ _ ?_); clear hK K)
          | (with_reducible refine ed_nil (hK _ _ ?_); clear hK K)
          | ((first | with_reducible refine ev_cons (fun K' hK' => ?_) | with_reducible refine ed_cons (fun K' hK' => ?_) | (with_reducible refine ev_id ?_; refine ev_guard rfl (fun K' hK' => ?_)) | (with_reducible refine ed_id ?_; refine ed_guard rfl (fun K' hK' => ?_))); simp [h11]; repeat' (first | (with_reducible refine hK' _ _ ?_; clear hK' K') | ((with_reducible refine RetAt.use hnx ?_); try simp [h11]) | ((with_reducible refine pay_use (s := s) N hs (by simp only [okLen]; omega) (fun i i0 i1 => by have := ABnd.rest hk.inv hk.bnd hcb i i0 i1; omega) (by omega) (by omega) (fun e => absurd e he) (fun _ T2 C2 h2 hs2 => ?_)); try simp [h11]) | (with_reducible refine And.intro ?_ ?_) | (with_reducible intro hg) | (clear hK' K'; omega)))
          | (with_reducible refine w_cond (fun A B hA hB => ?_); simp [h11]; repeat' (first | (with_reducible refine hA ?_; clear hA hB A B) | (with_reducible refine hB ?_; clear hA hB A B) | (with_reducible refine And.intro ?_ ?_) | (with_reducible intro hc)))
          | (with_reducible refine awp_seq ?_))
        obtain ⟨p1, p2⟩ := hk.inv.pay N hT he
        have p3 := p1.tight_le
        have hcl2 : (payA arcs st s).cuts.length = st.cuts.length + 1 := by simp [payA]
        exact ⟨arcs.length + 1 - (payA arcs st s).tight.length, by omega, payA arcs st s, T2, C2, f, rfl, hs2, ⟨p1, hk.bnd.pay N hcb hk.inv hT he⟩, by omega, by omega, hrun, by simp [h11]⟩
end Go.Am
namespace Go.Am
open Go Go.Proofs
set_option linter.unusedVariables false
set_option linter.unusedSimpArgs false
variable {w0 : World}
attribute [local irreducible] AWP ACalls
attribute [local congr] acalls_congr
theorem all19_ret {n : Nat} (hn : n ≤ 4096) : Ret Try.prog w0 35 [I n] (ints (upto n)) := by
  intro H
  refine w_enter Try.func35 rfl Try.ntmps35 (ts := [2]) rfl (by simp) (by kernel_rfl) ?_ |> ret_frz
  repeat' (first
    | (with_reducible refine awp_skip ?_)
    | (with_reducible refine then_any ?_)
    | (with_reducible refine then_ret ?_)
    | (with_reducible refine then_exit ?_)
    | (with_reducible refine inBlock_normal ?_)
    | (with_reducible refine inBlock_ret ?_)
    | (with_reducible refine inBlock_hit ?_)
    | (with_reducible refine inBlock_miss (by decide) ?_)
    | (with_reducible refine awp_ret ?_)
    | (with_reducible refine awp_exit ?_)
    | (with_reducible refine post_ret ?_)
    | (with_reducible refine post_normal ?_)
    | (with_reducible refine awp_block ?_)
    | (with_reducible refine awp_scope_ret ?_)
    | (with_reducible refine awp_label ?_)
    | (with_reducible refine v_reg [5] (fun K hK => ?_))
    | (with_reducible refine v_reg1 [5] (fun K hK => ?_))
    | (with_reducible refine v_draw mixed [5] [] (by kernel_rfl) (fun K hK => ?_))
    | (with_reducible refine v_draw1 mixed [5] [] (by kernel_rfl) (fun K hK => ?_))
    | (with_reducible refine ev_nil (hK _ _ ?_); clear hK K)
    | (with_reducible refine ed_nil (hK _ _ ?_); clear hK K)
    | ((first | with_reducible refine ev_cons (fun K' hK' => ?_) | with_reducible refine ed_cons (fun K' hK' => ?_) | (with_reducible refine ev_id ?_; refine ev_guard rfl (fun K' hK' => ?_)) | (with_reducible refine ed_id ?_; refine ed_guard rfl (fun K' hK' => ?_))); simp; repeat' (first | (with_reducible refine hK' _ _ ?_; clear hK' K') | (with_reducible refine And.intro ?_ ?_) | (with_reducible intro hg) | (clear hK' K'; omega)))
    | (with_reducible refine w_cond (fun A B hA hB => ?_); simp; repeat' (first | (with_reducible refine hA ?_; clear hA hB A B) | (with_reducible refine hB ?_; clear hA hB A B) | (with_reducible refine And.intro ?_ ?_) | (with_reducible intro hc)))
    | (with_reducible refine awp_seq ?_))
  rename_i r
  have hr : H r = none := hg
  clear hg
  refine awp_loop (fun env h => ∃ k : Nat, k ≤ n ∧ env 4 = I k ∧ env 0 = I n ∧ env 3 = .ref r 0 k k ∧ h = upd H r (some (.arr 1 3 ((upto k).map I) k))) (fun env _ => n - natA (env 4)) ?_ ?_
  · exact ⟨0, by omega, by simp, by simp, by simp, by simp [upto_zero]⟩
  rintro env h ⟨k, hk, h4, h0, h3, rfl⟩
  have hnat : natA (env 4) = k := by simp [h4]
  rw [hnat]; clear hnat
  by_cases hlt : k < n
  · repeat' (first
      | (with_reducible refine awp_skip ?_)
      | (with_reducible refine then_any ?_)
      | (with_reducible refine then_ret ?_)
      | (with_reducible refine then_exit ?_)
      | (with_reducible refine inBlock_normal ?_)
      | (with_reducible refine inBlock_ret ?_)
      | (with_reducible refine inBlock_hit ?_)
      | (with_reducible refine inBlock_miss (by decide) ?_)
      | (with_reducible refine awp_ret ?_)
      | (with_reducible refine awp_exit ?_)
      | (with_reducible refine post_ret ?_)
      | (with_reducible refine post_normal ?_)
      | (with_reducible refine awp_block ?_)
      | (with_reducible refine awp_scope_ret ?_)
      | (with_reducible refine awp_label ?_)
      | (with_reducible refine v_reg [] (fun K hK => ?_))
      | (with_reducible refine v_reg1 [] (fun K hK => ?_))
      | (with_reducible refine v_draw mixed [] [] (by kernel_rfl) (fun K hK => ?_))
      | (with_reducible refine v_draw1 mixed [] [] (by kernel_rfl) (fun K hK => ?_))
      | (with_reducible refine ev_nil (hK _ _ ?_); clear hK K)
      | (with_reducible refine ed_nil (hK _ _ ?_); clear hK K)
      | ((first | with_reducible refine ev_cons (fun K' hK' => ?_) | with_reducible refine ed_cons (fun K' hK' => ?_) | (with_reducible refine ev_id ?_; refine ev_guard rfl (fun K' hK' => ?_)) | (with_reducible refine ed_id ?_; refine ed_guard rfl (fun K' hK' => ?_))); simp [h4, h0, h3, hlt]; repeat' (first | (with_reducible refine hK' _ _ ?_; clear hK' K') | (with_reducible refine And.intro ?_ ?_) | (with_reducible intro hg) | (clear hK' K'; omega)))
      | (with_reducible refine w_cond (fun A B hA hB => ?_); simp [h4, h0, h3, hlt]; repeat' (first | (with_reducible refine hA ?_; clear hA hB A B) | (with_reducible refine hB ?_; clear hA hB A B) | (with_reducible refine And.intro ?_ ?_) | (with_reducible intro hc)))
      | (with_reducible refine awp_seq ?_))
    exact ⟨⟨k + 1, by omega, by simp, by simp [h0], by simp, by rw [upto_succ]; simp⟩, by simp; omega⟩
  · have : k = n := by omega
    subst this
    repeat' (first
      | (with_reducible refine awp_skip ?_)
      | (with_reducible refine then_any ?_)
      | (with_reducible refine then_ret ?_)
      | (with_reducible refine then_exit ?_)
      | (with_reducible refine inBlock_normal ?_)
      | (with_reducible refine inBlock_ret ?_)
      | (with_reducible refine inBlock_hit ?_)
      | (with_reducible refine inBlock_miss (by decide) ?_)
      | (with_reducible refine awp_ret ?_)
      | (with_reducible refine awp_exit ?_)
      | (with_reducible refine post_ret ?_)
      | (with_reducible refine post_normal ?_)
      | (with_reducible refine awp_block ?_)
      | (with_reducible refine awp_scope_ret ?_)
      | (with_reducible refine awp_label ?_)
      | (with_reducible refine v_reg [] (fun K hK => ?_))
      | (with_reducible refine v_reg1 [] (fun K hK => ?_))
      | (with_reducible refine v_draw mixed [] [] (by kernel_rfl) (fun K hK => ?_))
      | (with_reducible refine v_draw1 mixed [] [] (by kernel_rfl) (fun K hK => ?_))
      | (with_reducible refine ev_nil (hK _ _ ?_); clear hK K)
      | (with_reducible refine ed_nil (hK _ _ ?_); clear hK K)
      | ((first | with_reducible refine ev_cons (fun K' hK' => ?_) | with_reducible refine ed_cons (fun K' hK' => ?_) | (with_reducible refine ev_id ?_; refine ev_guard rfl (fun K' hK' => ?_)) | (with_reducible refine ed_id ?_; refine ed_guard rfl (fun K' hK' => ?_))); simp [h4, h0, h3]; repeat' (first | (with_reducible refine hK' _ _ ?_; clear hK' K') | (with_reducible refine And.intro ?_ ?_) | (with_reducible intro hg) | (clear hK' K'; omega)))
      | (with_reducible refine w_cond (fun A B hA hB => ?_); simp [h4, h0, h3]; repeat' (first | (with_reducible refine hA ?_; clear hA hB A B) | (with_reducible refine hB ?_; clear hA hB A B) | (with_reducible refine And.intro ?_ ?_) | (with_reducible intro hc)))
      | (with_reducible refine awp_seq ?_))
    exact frz hr (by simp) rfl (cut_upto k)
theorem cut_get {cuts : List (List Int × Int)} {k : Nat} (h : k < cuts.length) : (cutCells cuts)[k * 2]? = some (ints cuts[k].1) ∧ (cutCells cuts)[k * 2 + 1]? = some (I cuts[k].2) := by
  induction cuts generalizing k with
  | nil => simp at h
  | cons c cuts ih =>
    cases k with
    | zero => simp [cutCells]
    | succ k =>
      have := ih (k := k) (by simpa using h)
      rw [show (k + 1) * 2 = k * 2 + 2 by omega]
      simpa [cutCells] using this
theorem cut_at {cuts : List (List Int × Int)} {k : Nat} (h : k < cuts.length) : (∀ h', (cutCells cuts)[k * 2]'h' = ints cuts[k].1) ∧ (∀ h', (cutCells cuts)[k * 2 + 1]'h' = I cuts[k].2) ∧ k * 2 + 1 < (cutCells cuts).length ∧ k * 2 < (cutCells cuts).length := by
  have hp := cut_get h
  have hl := cutCells_length cuts
  exact ⟨fun h' => by have := hp.1; rw [List.getElem?_eq_getElem h'] at this; simpa using this, fun h' => by have := hp.2; rw [List.getElem?_eq_getElem h'] at this; simpa using this, by omega, by omega⟩
theorem cuts_same {cuts : List (List Int × Int)} (h : ∀ c ∈ cuts, IsSet c.1 ∧ c.1.length ≤ 4096) (hl : cuts.length ≤ 4096) : Ret Try.prog w0 48 [cutsA cuts, cutsA cuts] (B true) := by
  intro H
  refine w_enter Try.func48 rfl Try.ntmps48 (ts := [4]) rfl (by simp) (by kernel_rfl) ?_
  repeat' (first
    | (with_reducible refine awp_skip ?_)
    | (with_reducible refine then_any ?_)
    | (with_reducible refine then_ret ?_)
    | (with_reducible refine then_exit ?_)
    | (with_reducible refine inBlock_normal ?_)
    | (with_reducible refine inBlock_ret ?_)
    | (with_reducible refine inBlock_hit ?_)
    | (with_reducible refine inBlock_miss (by decide) ?_)
    | (with_reducible refine awp_ret ?_)
    | (with_reducible refine awp_exit ?_)
    | (with_reducible refine post_ret ?_)
    | (with_reducible refine post_normal ?_)
    | (with_reducible refine awp_block ?_)
    | (with_reducible refine awp_scope_ret ?_)
    | (with_reducible refine awp_label ?_)
    | (with_reducible refine v_reg [] (fun K hK => ?_))
    | (with_reducible refine v_reg1 [] (fun K hK => ?_))
    | (with_reducible refine v_draw mixed [] [] (by kernel_rfl) (fun K hK => ?_))
    | (with_reducible refine v_draw1 mixed [] [] (by kernel_rfl) (fun K hK => ?_))
    | (with_reducible refine ev_nil (hK _ _ ?_); clear hK K)
    | (with_reducible refine ed_nil (hK _ _ ?_); clear hK K)
    | ((first | with_reducible refine ev_cons (fun K' hK' => ?_) | with_reducible refine ed_cons (fun K' hK' => ?_) | (with_reducible refine ev_id ?_; refine ev_guard rfl (fun K' hK' => ?_)) | (with_reducible refine ed_id ?_; refine ed_guard rfl (fun K' hK' => ?_))); simp [cutsA]; repeat' (first | (with_reducible refine hK' _ _ ?_; clear hK' K') | (with_reducible refine And.intro ?_ ?_) | (with_reducible intro hg) | (clear hK' K'; omega)))
    | (with_reducible refine w_cond (fun A B hA hB => ?_); simp [cutsA]; repeat' (first | (with_reducible refine hA ?_; clear hA hB A B) | (with_reducible refine hB ?_; clear hA hB A B) | (with_reducible refine And.intro ?_ ?_) | (with_reducible intro hc)))
    | (with_reducible refine awp_seq ?_))
  refine awp_loop (fun env h => ∃ k : Nat, k ≤ cuts.length ∧ env 5 = I k ∧ env 0 = cutsA cuts ∧ env 1 = cutsA cuts ∧ h = H) (fun env _ => cuts.length - natA (env 5)) ?_ ?_
  · exact ⟨0, by omega, by simp, by simp [cutsA], by simp [cutsA], rfl⟩
  rintro env h' ⟨k, hk, h5, h0, h1, rfl⟩
  have hnat : natA (env 5) = k := by simp [h5]
  rw [hnat]; clear hnat
  by_cases hlt : k < cuts.length
  · obtain ⟨c1, c2, c3, c4⟩ := cut_at hlt
    obtain ⟨s1, s2⟩ := h _ (List.getElem_mem hlt)
    have hsub := sub2_ret (w0 := w0) (a := cuts[k].1) (b := cuts[k].1) (by simp only [okLen]; omega) (by simp only [okLen]; omega)
    have e1 : risesB (-1) cuts[k].1 = true := rises_iff.2 s1
    have e2 : (cuts[k].1.all fun x => decide (x ∈ cuts[k].1)) = true := by rw [List.all_eq_true]; intro x hx; simpa using hx
    rw [e1, e2] at hsub
    simp only [ints, Bool.and_self] at hsub
    repeat' (first
      | (with_reducible refine awp_skip ?_)
      | (with_reducible refine then_any ?_)
      | (with_reducible refine then_ret ?_)
      | (with_reducible refine then_exit ?_)
      | (with_reducible refine inBlock_normal ?_)
      | (with_reducible refine inBlock_ret ?_)
      | (with_reducible refine inBlock_hit ?_)
      | (with_reducible refine inBlock_miss (by decide) ?_)
      | (with_reducible refine awp_ret ?_)
      | (with_reducible refine awp_exit ?_)
      | (with_reducible refine post_ret ?_)
      | (with_reducible refine post_normal ?_)
      | (with_reducible refine awp_block ?_)
      | (with_reducible refine awp_scope_ret ?_)
      | (with_reducible refine awp_label ?_)
      | (with_reducible refine v_reg [] (fun K hK => ?_))
      | (with_reducible refine v_reg1 [] (fun K hK => ?_))
      | (with_reducible refine v_draw mixed [] [] (by kernel_rfl) (fun K hK => ?_))
      | (with_reducible refine v_draw1 mixed [] [] (by kernel_rfl) (fun K hK => ?_))
      | (with_reducible refine ev_nil (hK _ _ ?_); clear hK K)
      | (with_reducible refine ed_nil (hK _ _ ?_); clear hK K)
      | ((first | with_reducible refine ev_cons (fun K' hK' => ?_) | with_reducible refine ed_cons (fun K' hK' => ?_) | (with_reducible refine ev_id ?_; refine ev_guard rfl (fun K' hK' => ?_)) | (with_reducible refine ed_id ?_; refine ed_guard rfl (fun K' hK' => ?_))); simp [h5, h0, h1, cutsA, hlt, c1, c2, c3, c4, ints]; repeat' (first | (with_reducible refine hK' _ _ ?_; clear hK' K') | (with_reducible refine Ret.use hsub ?_; try simp [h5, h0, h1, cutsA, hlt, c1, c2, c3, c4, ints]) | (with_reducible refine And.intro ?_ ?_) | (with_reducible intro hg) | (clear hK' K'; omega)))
      | (with_reducible refine w_cond (fun A B hA hB => ?_); simp [h5, h0, h1, cutsA, hlt, c1, c2, c3, c4, ints]; repeat' (first | (with_reducible refine hA ?_; clear hA hB A B) | (with_reducible refine hB ?_; clear hA hB A B) | (with_reducible refine And.intro ?_ ?_) | (with_reducible intro hc)))
      | (with_reducible refine awp_seq ?_))
    exact ⟨⟨k + 1, by omega, by simp, by simp [h0, cutsA], by simp [h1, cutsA], rfl⟩, by simp; omega⟩
  · have : k = cuts.length := by omega
    subst this
    repeat' (first
      | (with_reducible refine awp_skip ?_)
      | (with_reducible refine then_any ?_)
      | (with_reducible refine then_ret ?_)
      | (with_reducible refine then_exit ?_)
      | (with_reducible refine inBlock_normal ?_)
      | (with_reducible refine inBlock_ret ?_)
      | (with_reducible refine inBlock_hit ?_)
      | (with_reducible refine inBlock_miss (by decide) ?_)
      | (with_reducible refine awp_ret ?_)
      | (with_reducible refine awp_exit ?_)
      | (with_reducible refine post_ret ?_)
      | (with_reducible refine post_normal ?_)
      | (with_reducible refine awp_block ?_)
      | (with_reducible refine awp_scope_ret ?_)
      | (with_reducible refine awp_label ?_)
      | (with_reducible refine v_reg [] (fun K hK => ?_))
      | (with_reducible refine v_reg1 [] (fun K hK => ?_))
      | (with_reducible refine v_draw mixed [] [] (by kernel_rfl) (fun K hK => ?_))
      | (with_reducible refine v_draw1 mixed [] [] (by kernel_rfl) (fun K hK => ?_))
      | (with_reducible refine ev_nil (hK _ _ ?_); clear hK K)
      | (with_reducible refine ed_nil (hK _ _ ?_); clear hK K)
      | ((first | with_reducible refine ev_cons (fun K' hK' => ?_) | with_reducible refine ed_cons (fun K' hK' => ?_) | (with_reducible refine ev_id ?_; refine ev_guard rfl (fun K' hK' => ?_)) | (with_reducible refine ed_id ?_; refine ed_guard rfl (fun K' hK' => ?_))); simp [h5, h0, h1, cutsA]; repeat' (first | (with_reducible refine hK' _ _ ?_; clear hK' K') | (with_reducible refine And.intro ?_ ?_) | (with_reducible intro hg) | (clear hK' K'; omega)))
      | (with_reducible refine w_cond (fun A B hA hB => ?_); simp [h5, h0, h1, cutsA]; repeat' (first | (with_reducible refine hA ?_; clear hA hB A B) | (with_reducible refine hB ?_; clear hA hB A B) | (with_reducible refine And.intro ?_ ?_) | (with_reducible intro hc)))
      | (with_reducible refine awp_seq ?_))
    simp
end Go.Am
namespace Go.Am
open Go Go.Proofs
set_option linter.unusedVariables false
set_option linter.unusedSimpArgs false
variable {w0 : World}
attribute [local irreducible] AWP ACalls
attribute [local congr] acalls_congr
structure PrvI (n : Nat) (arcs : List (Int × Int)) (cost : Int → Int) (root : Int) (cuts : List (List Int × Int)) : Prop where
  cut : ∀ c ∈ cuts, Pts n c.1 ∧ c.1 ≠ [] ∧ root ∉ c.1 ∧ (c.1.length = 1 ∨ 0 ≤ c.2) ∧ -4294967296 ≤ c.2 ∧ c.2 ≤ 4294967296
  paid : ∀ i : Int, 0 ≤ i → i < arcs.length → tlA arcs i ≠ hdA arcs i → hdA arcs i ≠ root → paidC arcs cuts i ≤ cost i
theorem sum_bound {α : Type} (f : α → Int) (l : List α) (h : ∀ x ∈ l, -4294967296 ≤ f x ∧ f x ≤ 4294967296) : -4294967296 * (l.length : Int) ≤ (l.map f).sum ∧ (l.map f).sum ≤ 4294967296 * (l.length : Int) := by
  induction l with
  | nil => simp
  | cons a l ih =>
    have h1 := ih fun x hx => h x (by simp [hx])
    have h2 := h a (by simp)
    simp only [List.map_cons, List.sum_cons, List.length_cons]
    push_cast
    omega
set_option maxRecDepth 20000 in
set_option maxHeartbeats 4000000 in
theorem proves_ret {n : Nat} {arcs : List (Int × Int)} {cost : List Int} {root : Int} {cuts : List (List Int × Int)} (hn : n ≤ 64) (hm : arcs.length ≤ 64) (hcl : cost.length = arcs.length) (hl : cuts.length ≤ 4096) (h : PrvI n arcs (costF cost) root cuts) :
    Ret Try.prog w0 36 [I n, pairs arcs, ints cost, I root, cutsA cuts, I (sumY cuts)] (B true) := by
  intro H
  have hsb : ∀ k, k ≤ cuts.length → -4294967296 * (k : Int) ≤ sumY (cuts.take k) ∧ sumY (cuts.take k) ≤ 4294967296 * (k : Int) := fun k hk => by
    have := sum_bound (fun c : List Int × Int => c.2) (cuts.take k) (fun c hc => (h.cut c (List.mem_of_mem_take hc)).2.2.2.2)
    rw [List.length_take, show min k cuts.length = k by omega] at this
    exact this
  have hlc := cutCells_length cuts
  refine w_enter Try.func36 rfl Try.ntmps36 (ts := [12]) rfl (by simp) (by kernel_rfl) ?_
  repeat' (first
    | (with_reducible refine awp_skip ?_)
    | (with_reducible refine then_any ?_)
    | (with_reducible refine then_ret ?_)
    | (with_reducible refine then_exit ?_)
    | (with_reducible refine inBlock_normal ?_)
    | (with_reducible refine inBlock_ret ?_)
    | (with_reducible refine inBlock_hit ?_)
    | (with_reducible refine inBlock_miss (by decide) ?_)
    | (with_reducible refine awp_ret ?_)
    | (with_reducible refine awp_exit ?_)
    | (with_reducible refine post_ret ?_)
    | (with_reducible refine post_normal ?_)
    | (with_reducible refine awp_block ?_)
    | (with_reducible refine awp_scope_ret ?_)
    | (with_reducible refine awp_label ?_)
    | (with_reducible refine v_reg [] (fun K hK => ?_))
    | (with_reducible refine v_reg1 [] (fun K hK => ?_))
    | (with_reducible refine v_draw mixed [] [] (by kernel_rfl) (fun K hK => ?_))
    | (with_reducible refine v_draw1 mixed [] [] (by kernel_rfl) (fun K hK => ?_))
    | (with_reducible refine ev_nil (hK _ _ ?_); clear hK K)
    | (with_reducible refine ed_nil (hK _ _ ?_); clear hK K)
    | ((first | with_reducible refine ev_cons (fun K' hK' => ?_) | with_reducible refine ed_cons (fun K' hK' => ?_) | (with_reducible refine ev_id ?_; refine ev_guard rfl (fun K' hK' => ?_)) | (with_reducible refine ed_id ?_; refine ed_guard rfl (fun K' hK' => ?_))); simp [cutsA]; repeat' (first | (with_reducible refine hK' _ _ ?_; clear hK' K') | (with_reducible refine And.intro ?_ ?_) | (with_reducible intro hg) | (clear hK' K'; omega)))
    | (with_reducible refine w_cond (fun A B hA hB => ?_); simp [cutsA]; repeat' (first | (with_reducible refine hA ?_; clear hA hB A B) | (with_reducible refine hB ?_; clear hA hB A B) | (with_reducible refine And.intro ?_ ?_) | (with_reducible intro hc)))
    | (with_reducible refine awp_seq ?_))
  refine awp_loop (fun env h' => ∃ k : Nat, k ≤ cuts.length ∧ env 14 = I k ∧ env 13 = I (sumY (cuts.take k)) ∧ env 0 = I n ∧ env 1 = pairs arcs ∧ env 2 = ints cost ∧ env 3 = I root ∧ env 4 = cutsA cuts ∧ env 5 = I (sumY cuts) ∧ h' = H) (fun env _ => cuts.length - natA (env 14)) ?_ ?_
  · exact ⟨0, by omega, by simp, by simp [sumY], by simp, by simp, by simp, by simp, by simp [cutsA], by simp, rfl⟩
  rintro env h' ⟨k, hk, h14, h13, h0, h1, h2, h3, h4, h5, rfl⟩
  have hnat : natA (env 14) = k := by simp [h14]
  rw [hnat]; clear hnat
  by_cases hlt : k < cuts.length
  · obtain ⟨c1, c2, c3, c4⟩ := cut_at hlt
    obtain ⟨s1, s2, s3, s4, s5, s6⟩ := h.cut _ (List.getElem_mem hlt)
    have hb1 := hsb k hk
    have hts : sumY (cuts.take (k + 1)) = sumY (cuts.take k) + cuts[k].2 := by
      rw [sumY, List.take_succ_eq_append_getElem hlt, List.map_append, List.sum_append]
      simp [sumY]
    have hsl := s1.length
    have hmay := may2_ret (w0 := w0) (l := cuts[k].1) (by simp only [okLen]; omega)
    have hhas := has2_ret (w0 := w0) (l := cuts[k].1) (x := root) (by simp only [okLen]; omega)
    have e1 : risesB (-1) cuts[k].1 = true := rises_iff.2 s1.set
    rw [e1] at hmay hhas
    have e2 : decide (root ∈ cuts[k].1) = false := by simp [s3]
    rw [e2] at hhas
    generalize hS : cuts[k].1 = S at *
    generalize hY : cuts[k].2 = y at *
    generalize sumY (cuts.take k) = z at *
    have hpos : 0 < S.length := List.length_pos_iff.2 s2
    have hp1 : ¬ (S.length : Int) = 0 := by omega
    have hp2 : S.length - 1 < S.length := by omega
    have hlast := s1.lt _ (List.getElem_mem hp2)
    have hlast2 : ¬ (n : Int) ≤ S[S.length - 1] := by omega
    have hcast : (S.length : Int) - 1 = ((S.length - 1 : Nat) : Int) := by omega
    have y1 : ¬ y < -1099511627776 := by omega
    have y2 : ¬ 1099511627776 < y := by omega
    have y3 : y < 0 → ¬ (1 : Int) < S.length := by omega
    simp only [ints] at hmay hhas
    by_cases y0 : y < 0
    · have y4 := y3 y0
      repeat' (first
        | (with_reducible refine awp_skip ?_)
        | (with_reducible refine then_any ?_)
        | (with_reducible refine then_ret ?_)
        | (with_reducible refine then_exit ?_)
        | (with_reducible refine inBlock_normal ?_)
        | (with_reducible refine inBlock_ret ?_)
        | (with_reducible refine inBlock_hit ?_)
        | (with_reducible refine inBlock_miss (by decide) ?_)
        | (with_reducible refine awp_ret ?_)
        | (with_reducible refine awp_exit ?_)
        | (with_reducible refine post_ret ?_)
        | (with_reducible refine post_normal ?_)
        | (with_reducible refine awp_block ?_)
        | (with_reducible refine awp_scope_ret ?_)
        | (with_reducible refine awp_label ?_)
        | (with_reducible refine v_reg [] (fun K hK => ?_))
        | (with_reducible refine v_reg1 [] (fun K hK => ?_))
        | (with_reducible refine v_draw mixed [] [] (by kernel_rfl) (fun K hK => ?_))
        | (with_reducible refine v_draw1 mixed [] [] (by kernel_rfl) (fun K hK => ?_))
        | (with_reducible refine ev_nil (hK _ _ ?_); clear hK K)
        | (with_reducible refine ed_nil (hK _ _ ?_); clear hK K)
        | ((first | with_reducible refine ev_cons (fun K' hK' => ?_) | with_reducible refine ed_cons (fun K' hK' => ?_) | (with_reducible refine ev_id ?_; refine ev_guard rfl (fun K' hK' => ?_)) | (with_reducible refine ed_id ?_; refine ed_guard rfl (fun K' hK' => ?_))); simp [h14, h13, h0, h1, h2, h3, h4, h5, cutsA, hlt, c1, c2, c3, c4, ints, hp1, s2, hcast, hp2, hlast2, y1, y2, y0, y4]; repeat' (first | (with_reducible refine hK' _ _ ?_; clear hK' K') | (with_reducible refine Ret.use hmay ?_; try simp [h14, h13, h0, h1, h2, h3, h4, h5, cutsA, hlt, c1, c2, c3, c4, ints, hp1, s2, hcast, hp2, hlast2, y1, y2, y0, y4]) | (with_reducible refine Ret.use hhas ?_; try simp [h14, h13, h0, h1, h2, h3, h4, h5, cutsA, hlt, c1, c2, c3, c4, ints, hp1, s2, hcast, hp2, hlast2, y1, y2, y0, y4]) | (with_reducible refine And.intro ?_ ?_) | (with_reducible intro hg) | (clear hK' K'; omega)))
        | (with_reducible refine w_cond (fun A B hA hB => ?_); simp [h14, h13, h0, h1, h2, h3, h4, h5, cutsA, hlt, c1, c2, c3, c4, ints, hp1, s2, hcast, hp2, hlast2, y1, y2, y0, y4]; repeat' (first | (with_reducible refine hA ?_; clear hA hB A B) | (with_reducible refine hB ?_; clear hA hB A B) | (with_reducible refine And.intro ?_ ?_) | (with_reducible intro hc)))
        | (with_reducible refine awp_seq ?_))
      all_goals try omega
      exact ⟨⟨k + 1, by omega, by simp, by simp [hts], by simp [h0], by simp [h1], by simp [h2, ints], by simp [h3], by simp [h4, cutsA], by simp [h5], rfl⟩, by simp; omega⟩
    · repeat' (first
        | (with_reducible refine awp_skip ?_)
        | (with_reducible refine then_any ?_)
        | (with_reducible refine then_ret ?_)
        | (with_reducible refine then_exit ?_)
        | (with_reducible refine inBlock_normal ?_)
        | (with_reducible refine inBlock_ret ?_)
        | (with_reducible refine inBlock_hit ?_)
        | (with_reducible refine inBlock_miss (by decide) ?_)
        | (with_reducible refine awp_ret ?_)
        | (with_reducible refine awp_exit ?_)
        | (with_reducible refine post_ret ?_)
        | (with_reducible refine post_normal ?_)
        | (with_reducible refine awp_block ?_)
        | (with_reducible refine awp_scope_ret ?_)
        | (with_reducible refine awp_label ?_)
        | (with_reducible refine v_reg [] (fun K hK => ?_))
        | (with_reducible refine v_reg1 [] (fun K hK => ?_))
        | (with_reducible refine v_draw mixed [] [] (by kernel_rfl) (fun K hK => ?_))
        | (with_reducible refine v_draw1 mixed [] [] (by kernel_rfl) (fun K hK => ?_))
        | (with_reducible refine ev_nil (hK _ _ ?_); clear hK K)
        | (with_reducible refine ed_nil (hK _ _ ?_); clear hK K)
        | ((first | with_reducible refine ev_cons (fun K' hK' => ?_) | with_reducible refine ed_cons (fun K' hK' => ?_) | (with_reducible refine ev_id ?_; refine ev_guard rfl (fun K' hK' => ?_)) | (with_reducible refine ed_id ?_; refine ed_guard rfl (fun K' hK' => ?_))); simp [h14, h13, h0, h1, h2, h3, h4, h5, cutsA, hlt, c1, c2, c3, c4, ints, hp1, s2, hcast, hp2, hlast2, y1, y2, y0]; repeat' (first | (with_reducible refine hK' _ _ ?_; clear hK' K') | (with_reducible refine Ret.use hmay ?_; try simp [h14, h13, h0, h1, h2, h3, h4, h5, cutsA, hlt, c1, c2, c3, c4, ints, hp1, s2, hcast, hp2, hlast2, y1, y2, y0]) | (with_reducible refine Ret.use hhas ?_; try simp [h14, h13, h0, h1, h2, h3, h4, h5, cutsA, hlt, c1, c2, c3, c4, ints, hp1, s2, hcast, hp2, hlast2, y1, y2, y0]) | (with_reducible refine And.intro ?_ ?_) | (with_reducible intro hg) | (clear hK' K'; omega)))
        | (with_reducible refine w_cond (fun A B hA hB => ?_); simp [h14, h13, h0, h1, h2, h3, h4, h5, cutsA, hlt, c1, c2, c3, c4, ints, hp1, s2, hcast, hp2, hlast2, y1, y2, y0]; repeat' (first | (with_reducible refine hA ?_; clear hA hB A B) | (with_reducible refine hB ?_; clear hA hB A B) | (with_reducible refine And.intro ?_ ?_) | (with_reducible intro hc)))
        | (with_reducible refine awp_seq ?_))
      all_goals try omega
      exact ⟨⟨k + 1, by omega, by simp, by simp [hts], by simp [h0], by simp [h1], by simp [h2, ints], by simp [h3], by simp [h4, cutsA], by simp [h5], rfl⟩, by simp; omega⟩
  · have : k = cuts.length := by omega
    subst this
    rw [List.take_length] at h13
    repeat' (first
      | (with_reducible refine awp_skip ?_)
      | (with_reducible refine then_any ?_)
      | (with_reducible refine then_ret ?_)
      | (with_reducible refine then_exit ?_)
      | (with_reducible refine inBlock_normal ?_)
      | (with_reducible refine inBlock_ret ?_)
      | (with_reducible refine inBlock_hit ?_)
      | (with_reducible refine inBlock_miss (by decide) ?_)
      | (with_reducible refine awp_ret ?_)
      | (with_reducible refine awp_exit ?_)
      | (with_reducible refine post_ret ?_)
      | (with_reducible refine post_normal ?_)
      | (with_reducible refine awp_block ?_)
      | (with_reducible refine awp_scope_ret ?_)
      | (with_reducible refine awp_label ?_)
      | (with_reducible refine v_reg [] (fun K hK => ?_))
      | (with_reducible refine v_reg1 [] (fun K hK => ?_))
      | (with_reducible refine v_draw mixed [] [] (by kernel_rfl) (fun K hK => ?_))
      | (with_reducible refine v_draw1 mixed [] [] (by kernel_rfl) (fun K hK => ?_))
      | (with_reducible refine ev_nil (hK _ _ ?_); clear hK K)
      | (with_reducible refine ed_nil (hK _ _ ?_); clear hK K)
      | ((first | with_reducible refine ev_cons (fun K' hK' => ?_) | with_reducible refine ed_cons (fun K' hK' => ?_) | (with_reducible refine ev_id ?_; refine ev_guard rfl (fun K' hK' => ?_)) | (with_reducible refine ed_id ?_; refine ed_guard rfl (fun K' hK' => ?_))); simp [h14, h13, h4, cutsA]; repeat' (first | (with_reducible refine hK' _ _ ?_; clear hK' K') | (with_reducible refine And.intro ?_ ?_) | (with_reducible intro hg) | (clear hK' K'; omega)))
      | (with_reducible refine w_cond (fun A B hA hB => ?_); simp [h14, h13, h4, cutsA]; repeat' (first | (with_reducible refine hA ?_; clear hA hB A B) | (with_reducible refine hB ?_; clear hA hB A B) | (with_reducible refine And.intro ?_ ?_) | (with_reducible intro hc)))
      | (with_reducible refine awp_seq ?_))
    have hpb : ∀ (i : Int) (k : Nat), k ≤ cuts.length → -4294967296 * (k : Int) ≤ paidC arcs (cuts.take k) i ∧ paidC arcs (cuts.take k) i ≤ 4294967296 * (k : Int) := fun i k hk => by
      have := sum_bound (fun c : List Int × Int => if hdA arcs i ∈ c.1 ∧ tlA arcs i ∉ c.1 then c.2 else 0) (cuts.take k) (fun c hc => by
        have := (h.cut c (List.mem_of_mem_take hc)).2.2.2.2
        split <;> omega)
      rw [List.length_take, show min k cuts.length = k by omega] at this
      exact this
    have hcg : ∀ i : Int, 0 ≤ i → ∀ h : i.toNat < cost.length, cost[i.toNat]'h = costF cost i := fun i i0 h => by simp [costF, h]
    refine awp_loop (fun env h2 => ∃ k : Nat, k ≤ arcs.length ∧ env 17 = I k ∧ env 13 = I (sumY cuts) ∧ env 0 = I n ∧ env 1 = pairs arcs ∧ env 2 = ints cost ∧ env 3 = I root ∧ env 4 = cutsA cuts ∧ env 5 = I (sumY cuts) ∧ h2 = h') (fun env _ => arcs.length - natA (env 17)) ?_ ?_
    · exact ⟨0, by omega, by simp, by simp [h13], by simp [h0], by simp [h1], by simp [h2], by simp [h3], by simp [h4], by simp [h5], rfl⟩
    clear h14 h13 h0 h1 h2 h3 h4 h5 hk hlt
    rintro env h2' ⟨k, hk, h17, h13, h0, h1, h2, h3, h4, h5, rfl⟩
    have hnat : natA (env 17) = k := by simp [h17]
    rw [hnat]; clear hnat
    by_cases hlt : k < arcs.length
    · have hp := pairs_at hlt
      rw [tlA_get hlt, hdA_get hlt] at hp
      by_cases e1 : tlA arcs k = hdA arcs k
      · repeat' (first
          | (with_reducible refine awp_skip ?_)
          | (with_reducible refine then_any ?_)
          | (with_reducible refine then_ret ?_)
          | (with_reducible refine then_exit ?_)
          | (with_reducible refine inBlock_normal ?_)
          | (with_reducible refine inBlock_ret ?_)
          | (with_reducible refine inBlock_hit ?_)
          | (with_reducible refine inBlock_miss (by decide) ?_)
          | (with_reducible refine awp_ret ?_)
          | (with_reducible refine awp_exit ?_)
          | (with_reducible refine post_ret ?_)
          | (with_reducible refine post_normal ?_)
          | (with_reducible refine awp_block ?_)
          | (with_reducible refine awp_scope_ret ?_)
          | (with_reducible refine awp_label ?_)
          | (with_reducible refine v_reg [] (fun K hK => ?_))
          | (with_reducible refine v_reg1 [] (fun K hK => ?_))
          | (with_reducible refine v_draw mixed [] [] (by kernel_rfl) (fun K hK => ?_))
          | (with_reducible refine v_draw1 mixed [] [] (by kernel_rfl) (fun K hK => ?_))
          | (with_reducible refine ev_nil (hK _ _ ?_); clear hK K)
          | (with_reducible refine ed_nil (hK _ _ ?_); clear hK K)
          | ((first | with_reducible refine ev_cons (fun K' hK' => ?_) | with_reducible refine ed_cons (fun K' hK' => ?_) | (with_reducible refine ev_id ?_; refine ev_guard rfl (fun K' hK' => ?_)) | (with_reducible refine ed_id ?_; refine ed_guard rfl (fun K' hK' => ?_))); simp [h17, h13, h0, h1, h2, h3, h4, h5, pairs, hlt, pairs_len, sum2, hp.1, hp.2.1, hp.2.2, e1]; repeat' (first | (with_reducible refine hK' _ _ ?_; clear hK' K') | (with_reducible refine And.intro ?_ ?_) | (with_reducible intro hg) | (clear hK' K'; omega)))
          | (with_reducible refine w_cond (fun A B hA hB => ?_); simp [h17, h13, h0, h1, h2, h3, h4, h5, pairs, hlt, pairs_len, sum2, hp.1, hp.2.1, hp.2.2, e1]; repeat' (first | (with_reducible refine hA ?_; clear hA hB A B) | (with_reducible refine hB ?_; clear hA hB A B) | (with_reducible refine And.intro ?_ ?_) | (with_reducible intro hc)))
          | (with_reducible refine awp_seq ?_))
        exact ⟨⟨k + 1, by omega, by simp, by simp [h13], by simp [h0], by simp [h1, pairs], by simp [h2], by simp [h3], by simp [h4], by simp [h5], rfl⟩, by simp; omega⟩
      by_cases e2 : hdA arcs k = root
      · repeat' (first
          | (with_reducible refine awp_skip ?_)
          | (with_reducible refine then_any ?_)
          | (with_reducible refine then_ret ?_)
          | (with_reducible refine then_exit ?_)
          | (with_reducible refine inBlock_normal ?_)
          | (with_reducible refine inBlock_ret ?_)
          | (with_reducible refine inBlock_hit ?_)
          | (with_reducible refine inBlock_miss (by decide) ?_)
          | (with_reducible refine awp_ret ?_)
          | (with_reducible refine awp_exit ?_)
          | (with_reducible refine post_ret ?_)
          | (with_reducible refine post_normal ?_)
          | (with_reducible refine awp_block ?_)
          | (with_reducible refine awp_scope_ret ?_)
          | (with_reducible refine awp_label ?_)
          | (with_reducible refine v_reg [] (fun K hK => ?_))
          | (with_reducible refine v_reg1 [] (fun K hK => ?_))
          | (with_reducible refine v_draw mixed [] [] (by kernel_rfl) (fun K hK => ?_))
          | (with_reducible refine v_draw1 mixed [] [] (by kernel_rfl) (fun K hK => ?_))
          | (with_reducible refine ev_nil (hK _ _ ?_); clear hK K)
          | (with_reducible refine ed_nil (hK _ _ ?_); clear hK K)
          | ((first | with_reducible refine ev_cons (fun K' hK' => ?_) | with_reducible refine ed_cons (fun K' hK' => ?_) | (with_reducible refine ev_id ?_; refine ev_guard rfl (fun K' hK' => ?_)) | (with_reducible refine ed_id ?_; refine ed_guard rfl (fun K' hK' => ?_))); simp [h17, h13, h0, h1, h2, h3, h4, h5, pairs, hlt, pairs_len, sum2, hp.1, hp.2.1, hp.2.2, e1, e2]; repeat' (first | (with_reducible refine hK' _ _ ?_; clear hK' K') | (with_reducible refine And.intro ?_ ?_) | (with_reducible intro hg) | (clear hK' K'; omega)))
          | (with_reducible refine w_cond (fun A B hA hB => ?_); simp [h17, h13, h0, h1, h2, h3, h4, h5, pairs, hlt, pairs_len, sum2, hp.1, hp.2.1, hp.2.2, e1, e2]; repeat' (first | (with_reducible refine hA ?_; clear hA hB A B) | (with_reducible refine hB ?_; clear hA hB A B) | (with_reducible refine And.intro ?_ ?_) | (with_reducible intro hc)))
          | (with_reducible refine awp_seq ?_))
        all_goals first | exact ⟨⟨k + 1, by omega, by simp, by simp [h13], by simp [h0], by simp [h1, pairs], by simp [h2], by simp [h3], by simp [h4], by simp [h5], rfl⟩, by simp; omega⟩ | (exfalso; rw [← e2] at *; first | contradiction | omega)
      have hpd := h.paid k (by omega) (by omega) e1 e2
      repeat' (first
        | (with_reducible refine awp_skip ?_)
        | (with_reducible refine then_any ?_)
        | (with_reducible refine then_ret ?_)
        | (with_reducible refine then_exit ?_)
        | (with_reducible refine inBlock_normal ?_)
        | (with_reducible refine inBlock_ret ?_)
        | (with_reducible refine inBlock_hit ?_)
        | (with_reducible refine inBlock_miss (by decide) ?_)
        | (with_reducible refine awp_ret ?_)
        | (with_reducible refine awp_exit ?_)
        | (with_reducible refine post_ret ?_)
        | (with_reducible refine post_normal ?_)
        | (with_reducible refine awp_block ?_)
        | (with_reducible refine awp_scope_ret ?_)
        | (with_reducible refine awp_label ?_)
        | (with_reducible refine v_reg [] (fun K hK => ?_))
        | (with_reducible refine v_reg1 [] (fun K hK => ?_))
        | (with_reducible refine v_draw mixed [] [] (by kernel_rfl) (fun K hK => ?_))
        | (with_reducible refine v_draw1 mixed [] [] (by kernel_rfl) (fun K hK => ?_))
        | (with_reducible refine ev_nil (hK _ _ ?_); clear hK K)
        | (with_reducible refine ed_nil (hK _ _ ?_); clear hK K)
        | ((first | with_reducible refine ev_cons (fun K' hK' => ?_) | with_reducible refine ed_cons (fun K' hK' => ?_) | (with_reducible refine ev_id ?_; refine ev_guard rfl (fun K' hK' => ?_)) | (with_reducible refine ed_id ?_; refine ed_guard rfl (fun K' hK' => ?_))); simp [h17, h13, h0, h1, h2, h3, h4, h5, pairs, hlt, pairs_len, sum2, hp.1, hp.2.1, hp.2.2, e1, e2]; repeat' (first | (with_reducible refine hK' _ _ ?_; clear hK' K') | (with_reducible refine And.intro ?_ ?_) | (with_reducible intro hg) | (clear hK' K'; omega)))
        | (with_reducible refine w_cond (fun A B hA hB => ?_); simp [h17, h13, h0, h1, h2, h3, h4, h5, pairs, hlt, pairs_len, sum2, hp.1, hp.2.1, hp.2.2, e1, e2]; repeat' (first | (with_reducible refine hA ?_; clear hA hB A B) | (with_reducible refine hB ?_; clear hA hB A B) | (with_reducible refine And.intro ?_ ?_) | (with_reducible intro hc)))
        | (with_reducible refine awp_seq ?_))
      refine awp_loop (fun env h2 => ∃ j : Nat, j ≤ cuts.length ∧ env 19 = I j ∧ env 18 = I (paidC arcs (cuts.take j) k) ∧ env 17 = I k ∧ env 13 = I (sumY cuts) ∧ env 0 = I n ∧ env 1 = pairs arcs ∧ env 2 = ints cost ∧ env 3 = I root ∧ env 4 = cutsA cuts ∧ env 5 = I (sumY cuts) ∧ h2 = h2') (fun env _ => cuts.length - natA (env 19)) ?_ ?_
      · exact ⟨0, by omega, by simp, by simp [paidC], by simp [h17], by simp [h13], by simp [h0], by simp [h1, pairs], by simp [h2], by simp [h3], by simp [h4], by simp [h5], rfl⟩
      clear h17 h13 h0 h1 h2 h3 h4 h5
      rintro env h3' ⟨j, hj, h19, h18, h17, h13, h0, h1, h2, h3, h4, h5, rfl⟩
      have hnat : natA (env 19) = j := by simp [h19]
      rw [hnat]; clear hnat
      by_cases hjl : j < cuts.length
      · obtain ⟨c1, c2, c3, c4⟩ := cut_at hjl
        obtain ⟨s1, s2, s3, s4, s5, s6⟩ := h.cut _ (List.getElem_mem hjl)
        have hb1 := hpb k j hj
        have hts : paidC arcs (cuts.take (j + 1)) k = paidC arcs (cuts.take j) k + if hdA arcs k ∈ cuts[j].1 ∧ tlA arcs k ∉ cuts[j].1 then cuts[j].2 else 0 := by
          rw [paidC, List.take_succ_eq_append_getElem hjl, List.map_append, List.sum_append]
          simp [paidC]
        have hsl := s1.length
        have hh1 := has2_ret (w0 := w0) (l := cuts[j].1) (x := hdA arcs k) (by simp only [okLen]; omega)
        have hh2 := has2_ret (w0 := w0) (l := cuts[j].1) (x := tlA arcs k) (by simp only [okLen]; omega)
        have e3 : risesB (-1) cuts[j].1 = true := rises_iff.2 s1.set
        rw [e3] at hh1 hh2
        generalize hS : cuts[j].1 = S at *
        generalize hY : cuts[j].2 = y at *
        generalize paidC arcs (cuts.take j) k = z at *
        simp only [ints, Bool.true_and] at hh1 hh2
        by_cases a1 : hdA arcs k ∈ S
        · simp only [a1, decide_true] at hh1
          by_cases a2 : tlA arcs k ∈ S
          · simp only [a2, decide_true] at hh2
            rw [if_neg (fun h => h.2 a2), Int.add_zero] at hts
            repeat' (first
              | (with_reducible refine awp_skip ?_)
              | (with_reducible refine then_any ?_)
              | (with_reducible refine then_ret ?_)
              | (with_reducible refine then_exit ?_)
              | (with_reducible refine inBlock_normal ?_)
              | (with_reducible refine inBlock_ret ?_)
              | (with_reducible refine inBlock_hit ?_)
              | (with_reducible refine inBlock_miss (by decide) ?_)
              | (with_reducible refine awp_ret ?_)
              | (with_reducible refine awp_exit ?_)
              | (with_reducible refine post_ret ?_)
              | (with_reducible refine post_normal ?_)
              | (with_reducible refine awp_block ?_)
              | (with_reducible refine awp_scope_ret ?_)
              | (with_reducible refine awp_label ?_)
              | (with_reducible refine v_reg [] (fun K hK => ?_))
              | (with_reducible refine v_reg1 [] (fun K hK => ?_))
              | (with_reducible refine v_draw mixed [] [] (by kernel_rfl) (fun K hK => ?_))
              | (with_reducible refine v_draw1 mixed [] [] (by kernel_rfl) (fun K hK => ?_))
              | (with_reducible refine ev_nil (hK _ _ ?_); clear hK K)
              | (with_reducible refine ed_nil (hK _ _ ?_); clear hK K)
              | ((first | with_reducible refine ev_cons (fun K' hK' => ?_) | with_reducible refine ed_cons (fun K' hK' => ?_) | (with_reducible refine ev_id ?_; refine ev_guard rfl (fun K' hK' => ?_)) | (with_reducible refine ed_id ?_; refine ed_guard rfl (fun K' hK' => ?_))); simp [h19, h18, h17, h13, h0, h1, h2, h3, h4, h5, cutsA, pairs, hjl, hlt, pairs_len, sum2, hp.1, hp.2.1, hp.2.2, c1, c2, c3, c4, ints]; repeat' (first | (with_reducible refine hK' _ _ ?_; clear hK' K') | (with_reducible refine Ret.use hh1 ?_; try simp [h19, h18, h17, h13, h0, h1, h2, h3, h4, h5, cutsA, pairs, hjl, hlt, pairs_len, sum2, hp.1, hp.2.1, hp.2.2, c1, c2, c3, c4, ints]) | (with_reducible refine Ret.use hh2 ?_; try simp [h19, h18, h17, h13, h0, h1, h2, h3, h4, h5, cutsA, pairs, hjl, hlt, pairs_len, sum2, hp.1, hp.2.1, hp.2.2, c1, c2, c3, c4, ints]) | (with_reducible refine And.intro ?_ ?_) | (with_reducible intro hg) | (clear hK' K'; omega)))
              | (with_reducible refine w_cond (fun A B hA hB => ?_); simp [h19, h18, h17, h13, h0, h1, h2, h3, h4, h5, cutsA, pairs, hjl, hlt, pairs_len, sum2, hp.1, hp.2.1, hp.2.2, c1, c2, c3, c4, ints]; repeat' (first | (with_reducible refine hA ?_; clear hA hB A B) | (with_reducible refine hB ?_; clear hA hB A B) | (with_reducible refine And.intro ?_ ?_) | (with_reducible intro hc)))
              | (with_reducible refine awp_seq ?_))
            exact ⟨⟨j + 1, by omega, by simp, by simp [hts, h18], by simp [h17], by simp [h13], by simp [h0], by simp [h1, pairs], by simp [h2, ints], by simp [h3], by simp [h4, cutsA], by simp [h5], rfl⟩, by simp; omega⟩
          · simp only [a2, decide_false] at hh2
            rw [if_pos ⟨a1, a2⟩] at hts
            repeat' (first
              | (with_reducible refine awp_skip ?_)
              | (with_reducible refine then_any ?_)
              | (with_reducible refine then_ret ?_)
              | (with_reducible refine then_exit ?_)
              | (with_reducible refine inBlock_normal ?_)
              | (with_reducible refine inBlock_ret ?_)
              | (with_reducible refine inBlock_hit ?_)
              | (with_reducible refine inBlock_miss (by decide) ?_)
              | (with_reducible refine awp_ret ?_)
              | (with_reducible refine awp_exit ?_)
              | (with_reducible refine post_ret ?_)
              | (with_reducible refine post_normal ?_)
              | (with_reducible refine awp_block ?_)
              | (with_reducible refine awp_scope_ret ?_)
              | (with_reducible refine awp_label ?_)
              | (with_reducible refine v_reg [] (fun K hK => ?_))
              | (with_reducible refine v_reg1 [] (fun K hK => ?_))
              | (with_reducible refine v_draw mixed [] [] (by kernel_rfl) (fun K hK => ?_))
              | (with_reducible refine v_draw1 mixed [] [] (by kernel_rfl) (fun K hK => ?_))
              | (with_reducible refine ev_nil (hK _ _ ?_); clear hK K)
              | (with_reducible refine ed_nil (hK _ _ ?_); clear hK K)
              | ((first | with_reducible refine ev_cons (fun K' hK' => ?_) | with_reducible refine ed_cons (fun K' hK' => ?_) | (with_reducible refine ev_id ?_; refine ev_guard rfl (fun K' hK' => ?_)) | (with_reducible refine ed_id ?_; refine ed_guard rfl (fun K' hK' => ?_))); simp [h19, h18, h17, h13, h0, h1, h2, h3, h4, h5, cutsA, pairs, hjl, hlt, pairs_len, sum2, hp.1, hp.2.1, hp.2.2, c1, c2, c3, c4, ints]; repeat' (first | (with_reducible refine hK' _ _ ?_; clear hK' K') | (with_reducible refine Ret.use hh1 ?_; try simp [h19, h18, h17, h13, h0, h1, h2, h3, h4, h5, cutsA, pairs, hjl, hlt, pairs_len, sum2, hp.1, hp.2.1, hp.2.2, c1, c2, c3, c4, ints]) | (with_reducible refine Ret.use hh2 ?_; try simp [h19, h18, h17, h13, h0, h1, h2, h3, h4, h5, cutsA, pairs, hjl, hlt, pairs_len, sum2, hp.1, hp.2.1, hp.2.2, c1, c2, c3, c4, ints]) | (with_reducible refine And.intro ?_ ?_) | (with_reducible intro hg) | (clear hK' K'; omega)))
              | (with_reducible refine w_cond (fun A B hA hB => ?_); simp [h19, h18, h17, h13, h0, h1, h2, h3, h4, h5, cutsA, pairs, hjl, hlt, pairs_len, sum2, hp.1, hp.2.1, hp.2.2, c1, c2, c3, c4, ints]; repeat' (first | (with_reducible refine hA ?_; clear hA hB A B) | (with_reducible refine hB ?_; clear hA hB A B) | (with_reducible refine And.intro ?_ ?_) | (with_reducible intro hc)))
              | (with_reducible refine awp_seq ?_))
            all_goals try omega
            exact ⟨⟨j + 1, by omega, by simp, by simp [hts], by simp [h17], by simp [h13], by simp [h0], by simp [h1, pairs], by simp [h2, ints], by simp [h3], by simp [h4, cutsA], by simp [h5], rfl⟩, by simp; omega⟩
        · simp only [a1, decide_false] at hh1
          rw [if_neg (fun h => a1 h.1), Int.add_zero] at hts
          repeat' (first
            | (with_reducible refine awp_skip ?_)
            | (with_reducible refine then_any ?_)
            | (with_reducible refine then_ret ?_)
            | (with_reducible refine then_exit ?_)
            | (with_reducible refine inBlock_normal ?_)
            | (with_reducible refine inBlock_ret ?_)
            | (with_reducible refine inBlock_hit ?_)
            | (with_reducible refine inBlock_miss (by decide) ?_)
            | (with_reducible refine awp_ret ?_)
            | (with_reducible refine awp_exit ?_)
            | (with_reducible refine post_ret ?_)
            | (with_reducible refine post_normal ?_)
            | (with_reducible refine awp_block ?_)
            | (with_reducible refine awp_scope_ret ?_)
            | (with_reducible refine awp_label ?_)
            | (with_reducible refine v_reg [] (fun K hK => ?_))
            | (with_reducible refine v_reg1 [] (fun K hK => ?_))
            | (with_reducible refine v_draw mixed [] [] (by kernel_rfl) (fun K hK => ?_))
            | (with_reducible refine v_draw1 mixed [] [] (by kernel_rfl) (fun K hK => ?_))
            | (with_reducible refine ev_nil (hK _ _ ?_); clear hK K)
            | (with_reducible refine ed_nil (hK _ _ ?_); clear hK K)
            | ((first | with_reducible refine ev_cons (fun K' hK' => ?_) | with_reducible refine ed_cons (fun K' hK' => ?_) | (with_reducible refine ev_id ?_; refine ev_guard rfl (fun K' hK' => ?_)) | (with_reducible refine ed_id ?_; refine ed_guard rfl (fun K' hK' => ?_))); simp [h19, h18, h17, h13, h0, h1, h2, h3, h4, h5, cutsA, pairs, hjl, hlt, pairs_len, sum2, hp.1, hp.2.1, hp.2.2, c1, c2, c3, c4, ints]; repeat' (first | (with_reducible refine hK' _ _ ?_; clear hK' K') | (with_reducible refine Ret.use hh1 ?_; try simp [h19, h18, h17, h13, h0, h1, h2, h3, h4, h5, cutsA, pairs, hjl, hlt, pairs_len, sum2, hp.1, hp.2.1, hp.2.2, c1, c2, c3, c4, ints]) | (with_reducible refine Ret.use hh2 ?_; try simp [h19, h18, h17, h13, h0, h1, h2, h3, h4, h5, cutsA, pairs, hjl, hlt, pairs_len, sum2, hp.1, hp.2.1, hp.2.2, c1, c2, c3, c4, ints]) | (with_reducible refine And.intro ?_ ?_) | (with_reducible intro hg) | (clear hK' K'; omega)))
            | (with_reducible refine w_cond (fun A B hA hB => ?_); simp [h19, h18, h17, h13, h0, h1, h2, h3, h4, h5, cutsA, pairs, hjl, hlt, pairs_len, sum2, hp.1, hp.2.1, hp.2.2, c1, c2, c3, c4, ints]; repeat' (first | (with_reducible refine hA ?_; clear hA hB A B) | (with_reducible refine hB ?_; clear hA hB A B) | (with_reducible refine And.intro ?_ ?_) | (with_reducible intro hc)))
            | (with_reducible refine awp_seq ?_))
          exact ⟨⟨j + 1, by omega, by simp, by simp [hts, h18], by simp [h17], by simp [h13], by simp [h0], by simp [h1, pairs], by simp [h2, ints], by simp [h3], by simp [h4, cutsA], by simp [h5], rfl⟩, by simp; omega⟩
      · have : j = cuts.length := by omega
        subst this
        rw [List.take_length] at h18
        have hcg' := hcg k (by omega)
        simp only [Int.toNat_natCast] at hcg'
        have hnle : ¬ costF cost k < paidC arcs cuts k := by omega
        have hkc : k < cost.length := by omega
        repeat' (first
          | (with_reducible refine awp_skip ?_)
          | (with_reducible refine then_any ?_)
          | (with_reducible refine then_ret ?_)
          | (with_reducible refine then_exit ?_)
          | (with_reducible refine inBlock_normal ?_)
          | (with_reducible refine inBlock_ret ?_)
          | (with_reducible refine inBlock_hit ?_)
          | (with_reducible refine inBlock_miss (by decide) ?_)
          | (with_reducible refine awp_ret ?_)
          | (with_reducible refine awp_exit ?_)
          | (with_reducible refine post_ret ?_)
          | (with_reducible refine post_normal ?_)
          | (with_reducible refine awp_block ?_)
          | (with_reducible refine awp_scope_ret ?_)
          | (with_reducible refine awp_label ?_)
          | (with_reducible refine v_reg [] (fun K hK => ?_))
          | (with_reducible refine v_reg1 [] (fun K hK => ?_))
          | (with_reducible refine v_draw mixed [] [] (by kernel_rfl) (fun K hK => ?_))
          | (with_reducible refine v_draw1 mixed [] [] (by kernel_rfl) (fun K hK => ?_))
          | (with_reducible refine ev_nil (hK _ _ ?_); clear hK K)
          | (with_reducible refine ed_nil (hK _ _ ?_); clear hK K)
          | ((first | with_reducible refine ev_cons (fun K' hK' => ?_) | with_reducible refine ed_cons (fun K' hK' => ?_) | (with_reducible refine ev_id ?_; refine ev_guard rfl (fun K' hK' => ?_)) | (with_reducible refine ed_id ?_; refine ed_guard rfl (fun K' hK' => ?_))); simp [h19, h18, h17, h13, h0, h1, h2, h3, h4, h5, cutsA, ints, hcg', hnle, hkc]; repeat' (first | (with_reducible refine hK' _ _ ?_; clear hK' K') | (with_reducible refine And.intro ?_ ?_) | (with_reducible intro hg) | (clear hK' K'; omega)))
          | (with_reducible refine w_cond (fun A B hA hB => ?_); simp [h19, h18, h17, h13, h0, h1, h2, h3, h4, h5, cutsA, ints, hcg', hnle, hkc]; repeat' (first | (with_reducible refine hA ?_; clear hA hB A B) | (with_reducible refine hB ?_; clear hA hB A B) | (with_reducible refine And.intro ?_ ?_) | (with_reducible intro hc)))
          | (with_reducible refine awp_seq ?_))
        exact ⟨⟨k + 1, by omega, by simp, by simp [h13], by simp [h0], by simp [h1, pairs], by simp [h2, ints], by simp [h3], by simp [h4, cutsA], by simp [h5], rfl⟩, by simp; omega⟩
    · have : k = arcs.length := by omega
      subst this
      repeat' (first
        | (with_reducible refine awp_skip ?_)
        | (with_reducible refine then_any ?_)
        | (with_reducible refine then_ret ?_)
        | (with_reducible refine then_exit ?_)
        | (with_reducible refine inBlock_normal ?_)
        | (with_reducible refine inBlock_ret ?_)
        | (with_reducible refine inBlock_hit ?_)
        | (with_reducible refine inBlock_miss (by decide) ?_)
        | (with_reducible refine awp_ret ?_)
        | (with_reducible refine awp_exit ?_)
        | (with_reducible refine post_ret ?_)
        | (with_reducible refine post_normal ?_)
        | (with_reducible refine awp_block ?_)
        | (with_reducible refine awp_scope_ret ?_)
        | (with_reducible refine awp_label ?_)
        | (with_reducible refine v_reg [] (fun K hK => ?_))
        | (with_reducible refine v_reg1 [] (fun K hK => ?_))
        | (with_reducible refine v_draw mixed [] [] (by kernel_rfl) (fun K hK => ?_))
        | (with_reducible refine v_draw1 mixed [] [] (by kernel_rfl) (fun K hK => ?_))
        | (with_reducible refine ev_nil (hK _ _ ?_); clear hK K)
        | (with_reducible refine ed_nil (hK _ _ ?_); clear hK K)
        | ((first | with_reducible refine ev_cons (fun K' hK' => ?_) | with_reducible refine ed_cons (fun K' hK' => ?_) | (with_reducible refine ev_id ?_; refine ev_guard rfl (fun K' hK' => ?_)) | (with_reducible refine ed_id ?_; refine ed_guard rfl (fun K' hK' => ?_))); simp [h17, h13, h1, h5, pairs]; repeat' (first | (with_reducible refine hK' _ _ ?_; clear hK' K') | (with_reducible refine And.intro ?_ ?_) | (with_reducible intro hg) | (clear hK' K'; omega)))
        | (with_reducible refine w_cond (fun A B hA hB => ?_); simp [h17, h13, h1, h5, pairs]; repeat' (first | (with_reducible refine hA ?_; clear hA hB A B) | (with_reducible refine hB ?_; clear hA hB A B) | (with_reducible refine And.intro ?_ ?_) | (with_reducible intro hc)))
        | (with_reducible refine awp_seq ?_))
      simp
end Go.Am
namespace Go.Am
theorem fix1 : cheapA 3 [(0, 1), (0, 2), (2, 1)] [5, 1, 2] 0 = ([1, 2], [([1], 2), ([2], 1)], 0) := by decide +kernel
theorem fix2 : cheapA 3 [(0, 1), (0, 2), (2, 1)] [-5, 1, 2] 0 = ([0, 1], [([1], -5), ([2], 1)], 0) := by decide +kernel
theorem fix3 : cheapA 3 [(0, 1), (0, 2), (2, 1)] [5, 1, 2] 1 = ([], [([0], 0)], 190) := by decide +kernel
theorem fix4 : cheapA 3 [(0, 1), (0, 2), (2, 1)] [5, 1] 0 = ([], [], 1) := by decide +kernel
theorem fix5 : cheapA 1 [] [] 0 = ([], [], 0) := by decide +kernel
theorem fix6 : entA [(0, 1), (0, 2), (2, 1)] no0 [1, 2] = [0, 1] := by decide +kernel
end Go.Am
namespace Go.Am
open Go Go.Proofs
set_option linter.unusedVariables false
set_option linter.unusedSimpArgs false
variable {w0 : World}
attribute [local irreducible] AWP ACalls
attribute [local congr] acalls_congr
theorem prv2 : PrvI 3 [(0, 1), (0, 2), (2, 1)] (costF [-5, 1, 2]) 0 [([1], -5), ([2], 1)] := by
  refine ⟨fun c hc => ?_, fun i i0 i1 _ _ => ?_⟩
  · simp only [List.mem_cons, List.not_mem_nil, or_false] at hc
    rcases hc with rfl | rfl
    · exact ⟨⟨.one (by omega), by simp⟩, by simp, by simp, by simp, by simp, by simp⟩
    · exact ⟨⟨.one (by omega), by simp⟩, by simp, by simp, by simp, by simp, by simp⟩
  · simp at i1
    have : i = 0 ∨ i = 1 ∨ i = 2 := by omega
    rcases this with rfl | rfl | rfl <;> decide +kernel
theorem sum2' : sumY [([1], -5), ([2], 1)] = -4 := by decide
set_option maxRecDepth 200000 in
set_option maxHeartbeats 4000000 in
theorem fixed19_ret : Ret Try.prog w0 29 [] (B true) := by
  intro H
  have c1 := cheap_ret (w0 := w0) (n := 3) (arcs := [(0, 1), (0, 2), (2, 1)]) (cost := [5, 1, 2]) (root := 0) (by simp) (by simp)
  have c2 := cheap_ret (w0 := w0) (n := 3) (arcs := [(0, 1), (0, 2), (2, 1)]) (cost := [-5, 1, 2]) (root := 0) (by simp) (by simp)
  have c3 := cheap_ret (w0 := w0) (n := 3) (arcs := [(0, 1), (0, 2), (2, 1)]) (cost := [5, 1, 2]) (root := 1) (by simp) (by simp)
  have c4 := cheap_ret (w0 := w0) (n := 3) (arcs := [(0, 1), (0, 2), (2, 1)]) (cost := [5, 1]) (root := 0) (by simp) (by simp)
  have c5 := cheap_ret (w0 := w0) (n := 1) (arcs := []) (cost := []) (root := 0) (by simp) (by simp)
  rw [fix1] at c1
  rw [fix2] at c2
  rw [fix3] at c3
  rw [fix4] at c4
  rw [fix5] at c5
  have d1 := cuts_same (w0 := w0) (cuts := [([1], 2), ([2], 1)]) (fun c hc => by
    simp only [List.mem_cons, List.not_mem_nil, or_false] at hc
    rcases hc with rfl | rfl <;> exact ⟨.one (by omega), by simp⟩) (by simp)
  have d2 := cuts_same (w0 := w0) (cuts := [([0], 0)]) (fun c hc => by
    simp only [List.mem_cons, List.not_mem_nil, or_false] at hc
    rcases hc with rfl
    exact ⟨.one (by omega), by simp⟩) (by simp)
  have p1 := proves_ret (w0 := w0) (n := 3) (cost := [-5, 1, 2]) (by omega) (by simp) (by simp) (by simp) prv2
  rw [sum2'] at p1
  have q1 := same_ret (w0 := w0) (a := [1, 2]) (b := [1, 2]) (by simp) (by simp)
  have q2 := same_ret (w0 := w0) (a := [0, 1]) (b := [0, 1]) (by simp) (by simp)
  have e1 := entersA_ret (w0 := w0) (arcs := [(0, 1), (0, 2), (2, 1)]) (s := [1, 2]) (by simp) (by simp)
  rw [fix6] at e1
  have m1 := arborMay_ret (w0 := w0) (n := 3) (root := 0) (arcs := [(0, 1), (0, 2), (2, 1)]) (cost := [5, 1, 2]) (by simp) (by simp)
  rw [show mayC 3 [(0, 1), (0, 2), (2, 1)] [5, 1, 2] 0 = true by decide] at m1
  simp only [decide_true] at q1 q2
  simp [cheapV, pairs, ints, cutsA, cutCells] at c1 c2 c3 c4 c5 d1 d2 p1 q1 q2 e1 m1
  have hz6 : zrep [.int .i64 0, .int .i64 0] 6 = [I 0, I 0, I 0, I 0, I 0, I 0] := by rfl
  refine w_enter Try.func29 rfl Try.ntmps29 (ts := [0]) rfl (by simp) (by kernel_rfl) ?_
  repeat' (first
    | (with_reducible refine awp_skip ?_)
    | (with_reducible refine then_any ?_)
    | (with_reducible refine then_ret ?_)
    | (with_reducible refine then_exit ?_)
    | (with_reducible refine inBlock_normal ?_)
    | (with_reducible refine inBlock_ret ?_)
    | (with_reducible refine inBlock_hit ?_)
    | (with_reducible refine inBlock_miss (by decide) ?_)
    | (with_reducible refine awp_ret ?_)
    | (with_reducible refine awp_exit ?_)
    | (with_reducible refine post_ret ?_)
    | (with_reducible refine post_normal ?_)
    | (with_reducible refine awp_block ?_)
    | (with_reducible refine awp_scope_ret ?_)
    | (with_reducible refine awp_label ?_)
    | ((fail_if_success (with_reducible refine at_reg 7 ?_)); with_reducible refine v_reg [] (fun K hK => ?_))
    | ((fail_if_success (with_reducible refine (?_ : AWP _ _ _ (Code.region 7 _ _) _ _ _))); with_reducible refine v_reg1 [] (fun K hK => ?_))
    | ((fail_if_success (with_reducible refine at_reg 7 ?_)); with_reducible refine v_draw mixed [] [] (by kernel_rfl) (fun K hK => ?_))
    | ((fail_if_success (with_reducible refine (?_ : AWP _ _ _ (Code.region 7 _ _) _ _ _))); with_reducible refine v_draw1 mixed [] [] (by kernel_rfl) (fun K hK => ?_))
    | (with_reducible refine ev_nil (hK _ _ ?_); clear hK K)
    | (with_reducible refine ed_nil (hK _ _ ?_); clear hK K)
    | ((first | with_reducible refine ev_cons (fun K' hK' => ?_) | with_reducible refine ed_cons (fun K' hK' => ?_) | (with_reducible refine ev_id ?_; refine ev_guard rfl (fun K' hK' => ?_)) | (with_reducible refine ed_id ?_; refine ed_guard rfl (fun K' hK' => ?_))); simp [hz6]; repeat' (first | (with_reducible refine hK' _ _ ?_; clear hK' K') | (with_reducible refine Ret.use c1 ?_; try simp [hz6]) | (with_reducible refine Ret.use c2 ?_; try simp [hz6]) | (with_reducible refine Ret.use c3 ?_; try simp [hz6]) | (with_reducible refine Ret.use c4 ?_; try simp [hz6]) | (with_reducible refine Ret.use c5 ?_; try simp [hz6]) | (with_reducible refine Ret.use d1 ?_; try simp [hz6]) | (with_reducible refine Ret.use d2 ?_; try simp [hz6]) | (with_reducible refine Ret.use p1 ?_; try simp [hz6]) | (with_reducible refine Ret.use q1 ?_; try simp [hz6]) | (with_reducible refine Ret.use q2 ?_; try simp [hz6]) | (with_reducible refine Ret.use e1 ?_; try simp [hz6]) | (with_reducible refine Ret.use m1 ?_; try simp [hz6]) | (with_reducible refine And.intro ?_ ?_) | (with_reducible intro hg) | (clear hK' K'; omega)))
    | (with_reducible refine w_cond (fun A B hA hB => ?_); simp [hz6]; repeat' (first | (with_reducible refine hA ?_; clear hA hB A B) | (with_reducible refine hB ?_; clear hA hB A B) | (with_reducible refine And.intro ?_ ?_) | (with_reducible intro hc)))
    | ((fail_if_success (with_reducible refine at_reg 7 ?_)); with_reducible refine awp_seq ?_))
  refine v_reg [] (fun K hK => ?_)
  simp only [List.append_eq, List.cons_append, List.nil_append]
  repeat' (first
    | (with_reducible refine awp_skip ?_)
    | (with_reducible refine then_any ?_)
    | (with_reducible refine then_ret ?_)
    | (with_reducible refine then_exit ?_)
    | (with_reducible refine inBlock_normal ?_)
    | (with_reducible refine inBlock_ret ?_)
    | (with_reducible refine inBlock_hit ?_)
    | (with_reducible refine inBlock_miss (by decide) ?_)
    | (with_reducible refine awp_ret ?_)
    | (with_reducible refine awp_exit ?_)
    | (with_reducible refine post_ret ?_)
    | (with_reducible refine post_normal ?_)
    | (with_reducible refine awp_block ?_)
    | (with_reducible refine awp_scope_ret ?_)
    | (with_reducible refine awp_label ?_)
    | (with_reducible refine v_reg [] (fun K hK => ?_))
    | (with_reducible refine v_reg1 [] (fun K hK => ?_))
    | (with_reducible refine v_draw mixed [] [] (by kernel_rfl) (fun K hK => ?_))
    | (with_reducible refine v_draw1 mixed [] [] (by kernel_rfl) (fun K hK => ?_))
    | (with_reducible refine ev_nil (hK _ _ ?_); clear hK K)
    | (with_reducible refine ed_nil (hK _ _ ?_); clear hK K)
    | ((first | with_reducible refine ev_cons (fun K' hK' => ?_) | with_reducible refine ed_cons (fun K' hK' => ?_) | (with_reducible refine ev_id ?_; refine ev_guard rfl (fun K' hK' => ?_)) | (with_reducible refine ed_id ?_; refine ed_guard rfl (fun K' hK' => ?_))); simp [hz6]; repeat' (first | (with_reducible refine hK' _ _ ?_; clear hK' K') | (with_reducible refine Ret.use c1 ?_; try simp [hz6]) | (with_reducible refine Ret.use c2 ?_; try simp [hz6]) | (with_reducible refine Ret.use c3 ?_; try simp [hz6]) | (with_reducible refine Ret.use c4 ?_; try simp [hz6]) | (with_reducible refine Ret.use c5 ?_; try simp [hz6]) | (with_reducible refine Ret.use d1 ?_; try simp [hz6]) | (with_reducible refine Ret.use d2 ?_; try simp [hz6]) | (with_reducible refine Ret.use p1 ?_; try simp [hz6]) | (with_reducible refine Ret.use q1 ?_; try simp [hz6]) | (with_reducible refine Ret.use q2 ?_; try simp [hz6]) | (with_reducible refine Ret.use e1 ?_; try simp [hz6]) | (with_reducible refine Ret.use m1 ?_; try simp [hz6]) | (with_reducible refine And.intro ?_ ?_) | (with_reducible intro hg) | (clear hK' K'; omega)))
    | (with_reducible refine w_cond (fun A B hA hB => ?_); simp [hz6]; repeat' (first | (with_reducible refine hA ?_; clear hA hB A B) | (with_reducible refine hB ?_; clear hA hB A B) | (with_reducible refine And.intro ?_ ?_) | (with_reducible intro hc)))
    | (with_reducible refine awp_seq ?_))
  exact ⟨by simp, .refl _⟩
end Go.Am
namespace Go.Am
set_option linter.unusedVariables false
set_option linter.unusedSimpArgs false
theorem mayC_net {n root : Int} {arcs : List (Int × Int)} {cost : List Int} (h : mayC n arcs cost root = true) : ∃ m : Nat, n = m ∧ 1 ≤ m ∧ NetA m arcs root ∧ cost.length = arcs.length ∧ ∀ i : Int, 0 ≤ i → i < arcs.length → -2147483648 ≤ costF cost i ∧ costF cost i ≤ 2147483648 := by
  simp only [mayC, Bool.and_eq_true, decide_eq_true_eq] at h
  obtain ⟨⟨hA, hcl⟩, hco⟩ := h
  obtain ⟨m, rfl, hm1, N⟩ := mayA_net hA
  refine ⟨m, rfl, hm1, N, hcl, fun i i0 i1 => ?_⟩
  have hi : i.toNat < cost.length := by omega
  have := List.all_eq_true.1 hco cost[i.toNat] (List.getElem_mem _)
  simp only [costOk, Bool.and_eq_true, decide_eq_true_eq] at this
  simp only [costF, List.getD_eq_getElem?_getD, List.getElem?_eq_getElem hi, Option.getD_some]
  exact this
inductive CheapK (m : Nat) (arcs : List (Int × Int)) (cost : List Int) (root : Int) (r : List Int × List (List Int × Int) × Int) : Prop where
  | ok (t : List Int) (cuts : List (List Int × Int)) (e : r = (t, cuts, 0)) (b : BestA arcs m root (costF cost) t) (s : costS (costF cost) t = sumY cuts) (p : PrvI m arcs (costF cost) root cuts) (l : cuts.length ≤ 64)
  | err (S : List Int) (e : r = ([], [(S, 0)], 190)) (no : ¬ isArb arcs m root) (hp : Pts m S) (ne : S ≠ []) (hr : root ∉ S) (he : entA arcs no0 S = [])
theorem run_cuts {arcs : List (Int × Int)} {n : Nat} {root : Int} (cost : Int → Int) (N : NetA n arcs root) (f : Nat) : ∀ st, AInv arcs n root cost st → st.cuts.length ≤ st.tight.length → (runA arcs n root f st).1.cuts.length ≤ (runA arcs n root f st).1.tight.length := by
  induction f with
  | zero => intro st _ h; exact h
  | succ f ih =>
    intro st hi h
    rw [runA]
    cases hn : nxtL arcs st.tight n root with
    | none => exact h
    | some s =>
      have ht := next_some N hi.plc hn
      by_cases he : entA arcs no0 s = []
      · simp only [if_pos he]; exact h
      · simp only [if_neg he]
        obtain ⟨p1, p2⟩ := hi.pay N ht he
        refine ih _ p1 ?_
        have : (payA arcs st s).cuts.length = st.cuts.length + 1 := by simp [payA]
        omega
theorem cheap_know {m : Nat} {arcs : List (Int × Int)} {cost : List Int} {root : Int} (h : mayC m arcs cost root = true) : CheapK m arcs cost root (cheapA m arcs cost root) := by
  obtain ⟨m', e, hm1, N, hcl, hcb⟩ := mayC_net h
  obtain rfl : m = m' := by omega
  rw [cheapA, if_pos h, Int.toNat_natCast]
  have hk := runC_know N hcb
  have he := runC_end (cost := costF cost) N
  cases hr : (runC arcs m root (costF cost)).2 with
  | none =>
    obtain ⟨b, s⟩ := runC_best N hcb hr
    rw [hr] at he
    refine .ok _ _ rfl b s ⟨fun c hc => ?_, fun i i0 i1 a1 a2 => ?_⟩ ?_
    · obtain ⟨c1, c2, c3, c4⟩ := hk.inv.cut c hc
      exact ⟨c1, c2, c3, c4, hk.bnd.cutb c hc⟩
    · obtain ⟨_, q0, qn⟩ := N.ends i i0 i1
      have h1 := hk.inv.nonneg i i0 i1 a1 (touched_all N hk.inv he q0 qn a2)
      have h2 := hk.inv.rest i i0 i1
      omega
    · have h1 := run_cuts (costF cost) N (arcs.length + 1) ⟨costF cost, [], []⟩ (.start _) (by simp)
      have h2 := hk.inv.tight_le
      have h3 := N.mle
      exact Nat.le_trans h1 (Nat.le_trans h2 h3)
  | some S =>
    rw [hr] at he
    exact .err S rfl (runC_none N hr) he.1.pts he.1.ne he.1.nroot he.2
end Go.Am
namespace Go.Am
open Go Go.Proofs
set_option linter.unusedVariables false
set_option linter.unusedSimpArgs false
variable {w0 : World}
attribute [local irreducible] AWP ACalls
attribute [local congr] acalls_congr
def parL (up : List Int) (k : Nat) : Nat → List (Int × Int)
  | 0 => []
  | i + 1 => parL up k i ++ List.replicate k (up.getD i 0, (i : Int) + 1)
theorem parL_length (up : List Int) (k i : Nat) : (parL up k i).length = i * k := by
  induction i with
  | zero => simp [parL]
  | succ i ih => rw [parL, List.length_append, ih, List.length_replicate, Nat.succ_mul]
def upOk (up : List Int) : Prop := ∀ q : Nat, q < up.length → 0 ≤ up.getD q 0 ∧ up.getD q 0 ≤ q
theorem parL_ok {up : List Int} {k : Nat} (h : upOk up) (i : Nat) (hi : i ≤ up.length) : (parL up k i).all (edgeOk (up.length + 1 : Nat)) = true := by
  induction i with
  | zero => rfl
  | succ i ih =>
    rw [parL, List.all_append, ih (by omega), Bool.true_and, List.all_eq_true]
    intro x hx
    rw [List.eq_of_mem_replicate hx]
    obtain ⟨a, b⟩ := h i (by omega)
    generalize up.getD i 0 = y at *
    simp [edgeOk]
    omega
end Go.Am
namespace Go.Am
set_option linter.unusedVariables false
set_option linter.unusedSimpArgs false
structure FS where
  l : List Int
  up : l.Pairwise (· < ·)
namespace FS
instance : Membership Int FS := ⟨fun s x => x ∈ s.l⟩
theorem mem_def {x : Int} {s : FS} : x ∈ s ↔ x ∈ s.l := Iff.rfl
instance (x : Int) (s : FS) : Decidable (x ∈ s) := inferInstanceAs (Decidable (x ∈ s.l))
@[simp, grind =] theorem mem_mk {x : Int} {l : List Int} (h : l.Pairwise (· < ·)) : x ∈ (⟨l, h⟩ : FS) ↔ x ∈ l := Iff.rfl
theorem ext' {a b : FS} (h : a.l = b.l) : a = b := by cases a; cases b; simp at h; subst h; rfl
@[ext] theorem ext {a b : FS} (h : ∀ x, x ∈ a ↔ x ∈ b) : a = b := ext' (up_ext a.up b.up h)
instance : HasSubset FS := ⟨fun a b => ∀ x, x ∈ a → x ∈ b⟩
theorem sub_anti {a b : FS} (h : a ⊆ b) (k : b ⊆ a) : a = b := ext fun x => ⟨h x, k x⟩
def ofListL : List Int → List Int
  | [] => []
  | x :: l => if x ∈ ofListL l then ofListL l else insL x (ofListL l)
theorem ofListL_spec (l : List Int) : (ofListL l).Pairwise (· < ·) ∧ ∀ x, x ∈ ofListL l ↔ x ∈ l := by
  induction l with
  | nil => exact ⟨.nil, by simp [ofListL]⟩
  | cons y l ih =>
    rw [ofListL]
    split
    · rename_i h
      refine ⟨ih.1, fun x => ?_⟩
      rw [ih.2, List.mem_cons]
      exact ⟨.inr, fun k => k.elim (fun e => by subst e; exact (ih.2 _).1 h) id⟩
    · rename_i h
      refine ⟨up_insL ih.1 h, fun x => ?_⟩
      rw [mem_insL, ih.2, List.mem_cons]
def ofList (l : List Int) : FS := ⟨ofListL l, (ofListL_spec l).1⟩
@[simp, grind =] theorem mem_ofList {x : Int} {l : List Int} : x ∈ ofList l ↔ x ∈ l := (ofListL_spec l).2 x
def empty : FS := ⟨[], .nil⟩
instance : EmptyCollection FS := ⟨empty⟩
@[simp, grind =] theorem mem_empty {x : Int} : x ∈ (∅ : FS) ↔ False := by show x ∈ ([] : List Int) ↔ False; simp
instance : Insert Int FS := ⟨fun x s => ofList (x :: s.l)⟩
@[simp, grind =] theorem mem_insert {x y : Int} {s : FS} : x ∈ (insert y s : FS) ↔ x = y ∨ x ∈ s := by
  show x ∈ ofList (y :: s.l) ↔ _
  rw [mem_ofList, List.mem_cons]; rfl
instance : Singleton Int FS := ⟨fun x => ofList [x]⟩
@[simp, grind =] theorem mem_singleton {x y : Int} : x ∈ ({y} : FS) ↔ x = y := by
  show x ∈ ofList [y] ↔ _
  rw [mem_ofList, List.mem_singleton]
def filter (p : Int → Bool) (s : FS) : FS := ⟨s.l.filter p, s.up.filter p⟩
@[simp, grind =] theorem mem_filter {p : Int → Bool} {s : FS} {x : Int} : x ∈ s.filter p ↔ x ∈ s ∧ p x = true := by
  show x ∈ s.l.filter p ↔ _
  rw [List.mem_filter]; rfl
instance : Union FS := ⟨fun a b => ofList (a.l ++ b.l)⟩
@[simp, grind =] theorem mem_union {a b : FS} {x : Int} : x ∈ a ∪ b ↔ x ∈ a ∨ x ∈ b := by
  show x ∈ ofList (a.l ++ b.l) ↔ _
  rw [mem_ofList, List.mem_append]; rfl
instance : Inter FS := ⟨fun a b => a.filter fun x => decide (x ∈ b)⟩
@[simp, grind =] theorem mem_inter {a b : FS} {x : Int} : x ∈ a ∩ b ↔ x ∈ a ∧ x ∈ b := by
  show x ∈ a.filter _ ↔ _
  rw [mem_filter, decide_eq_true_eq]
instance : SDiff FS := ⟨fun a b => a.filter fun x => !decide (x ∈ b)⟩
@[simp, grind =] theorem mem_sdiff {a b : FS} {x : Int} : x ∈ a \ b ↔ x ∈ a ∧ x ∉ b := by
  show x ∈ a.filter _ ↔ _
  rw [mem_filter]; simp
def erase (s : FS) (y : Int) : FS := s.filter fun x => decide (x ≠ y)
@[simp, grind =] theorem mem_erase {s : FS} {x y : Int} : x ∈ s.erase y ↔ x ∈ s ∧ x ≠ y := by
  rw [erase, mem_filter, decide_eq_true_eq]
def upTo (n : Nat) : FS := ⟨upto n, up_upto n⟩
@[simp, grind =] theorem mem_upTo {n : Nat} {x : Int} : x ∈ upTo n ↔ 0 ≤ x ∧ x < n := by
  show x ∈ upto n ↔ _
  rw [mem_upto]
def card (s : FS) : Nat := s.l.length
theorem nodup (s : FS) : s.l.Nodup := s.up.imp fun h e => by omega
theorem card_ofNodup {l : List Int} {s : FS} (h : l.Nodup) (hs : ∀ x, x ∈ s ↔ x ∈ l) : s.card = l.length :=
  Nat.le_antisymm (nodup_le s.l l s.nodup fun x hx => (hs x).1 hx) (nodup_le l s.l h fun x hx => (hs x).2 hx)
@[simp] theorem card_empty : (∅ : FS).card = 0 := rfl
theorem card_insert {x : Int} {s : FS} (h : x ∉ s) : (insert x s : FS).card = s.card + 1 :=
  card_ofNodup (l := x :: s.l) (List.nodup_cons.2 ⟨h, s.nodup⟩) fun y => by rw [mem_insert, List.mem_cons]; rfl
theorem insert_erase {x : Int} {s : FS} (h : x ∈ s) : (insert x (s.erase x) : FS) = s := ext fun y => by grind
theorem card_erase {x : Int} {s : FS} (h : x ∈ s) : (s.erase x).card + 1 = s.card := by
  have := card_insert (x := x) (s := s.erase x) (by grind)
  rw [insert_erase h] at this
  omega
@[simp] theorem card_singleton (x : Int) : ({x} : FS).card = 1 := card_ofNodup (l := [x]) (by simp) fun y => by simp
theorem card_zero {s : FS} (h : s.card = 0) : s = ∅ := ext fun x => by
  have : s.l = [] := List.eq_nil_of_length_eq_zero h
  rw [mem_def, this]; simp
@[simp] theorem card_upTo (n : Nat) : (upTo n).card = n := by simp [card, upTo]
theorem ind {P : FS → Prop} (h0 : P ∅) (h1 : ∀ (x : Int) (s : FS), x ∉ s → P s → P (insert x s)) (s : FS) : P s := by
  have : ∀ n (s : FS), s.card = n → P s := by
    intro n
    induction n with
    | zero => intro s h; rw [card_zero h]; exact h0
    | succ n ih =>
      intro s h
      obtain ⟨x, hx⟩ : ∃ x, x ∈ s := by
        cases e : s.l with
        | nil => simp [card, e] at h
        | cons x l => exact ⟨x, by rw [mem_def, e]; simp⟩
      have := h1 x (s.erase x) (by grind) (ih _ (by have := card_erase hx; omega))
      rwa [insert_erase hx] at this
  exact this _ s rfl
theorem card_union (a b : FS) : (a ∪ b).card + (a ∩ b).card = a.card + b.card := by
  induction a using ind with
  | h0 =>
    rw [show (∅ ∪ b : FS) = b from ext fun x => by grind, show (∅ ∩ b : FS) = ∅ from ext fun x => by grind]
    simp
  | h1 x s hx ih =>
    rw [card_insert hx]
    by_cases h : x ∈ b
    · rw [show insert x s ∪ b = s ∪ b from ext fun y => by grind, show insert x s ∩ b = insert x (s ∩ b) from ext fun y => by grind, card_insert (by grind)]
      omega
    · rw [show insert x s ∪ b = insert x (s ∪ b) from ext fun y => by grind, show insert x s ∩ b = s ∩ b from ext fun y => by grind, card_insert (by grind)]
      omega
theorem card_sdiff (a b : FS) : (a \ b).card + (a ∩ b).card = a.card := by
  have := card_union (a \ b) (a ∩ b)
  rw [show (a \ b) ∪ (a ∩ b) = a from ext fun x => by grind, show (a \ b) ∩ (a ∩ b) = ∅ from ext fun x => by grind, card_empty] at this
  omega
theorem card_sub_eq {a b : FS} (h : a ⊆ b) (hc : b.card ≤ a.card) : a = b := by
  have h1 := card_sdiff b a
  rw [show b ∩ a = a from ext fun x => by have := h x; grind] at h1
  have h2 : (b \ a).card = 0 := by omega
  have h3 := card_zero h2
  refine sub_anti h fun x hx => ?_
  by_cases e : x ∈ a
  · exact e
  · have : x ∈ b \ a := by grind
    rw [h3] at this; simp at this
end FS
end Go.Am
namespace Go.Am
open Go Go.Proofs
set_option linter.unusedVariables false
set_option linter.unusedSimpArgs false
variable {w0 : World}
attribute [local irreducible] AWP ACalls
attribute [local congr] acalls_congr
theorem par_at {up : List Int} {n q : Nat} (h : q < n) : (parL up 1 n)[q]? = some (up.getD q 0, (q : Int) + 1) := by
  induction n with
  | zero => omega
  | succ n ih =>
    have hl := parL_length up 1 n
    rw [parL]
    by_cases e : q = n
    · subst e
      rw [List.getElem?_append_right (by omega), show q - (parL up 1 q).length = 0 by omega]
      rfl
    · rw [List.getElem?_append_left (by omega)]
      exact ih (by omega)
theorem par_tl {up : List Int} {n : Nat} {i : Int} (h0 : 0 ≤ i) (h1 : i < n) : tlA (parL up 1 n) i = up.getD i.toNat 0 ∧ hdA (parL up 1 n) i = i + 1 := by
  have := par_at (up := up) (n := n) (q := i.toNat) (by omega)
  rw [tlA, hdA, List.getD_eq_getElem?_getD, this]
  simp
  omega
theorem par_may {up cost : List Int} (hU : upOk up) (hn : up.length ≤ 19) (hl : cost.length = up.length) (hc : ∀ i : Nat, i < cost.length → -2147483648 ≤ cost.getD i 0 ∧ cost.getD i 0 ≤ 2147483648) : mayC (up.length + 1 : Nat) (parL up 1 up.length) cost 0 = true := by
  have h1 := parL_ok (k := 1) hU up.length (Nat.le_refl _)
  have hpl := parL_length up 1 up.length
  simp only [mayC, mayA, h1, Bool.and_true, Bool.and_eq_true, decide_eq_true_eq, List.all_eq_true]
  refine ⟨⟨by omega, by omega⟩, fun x hx => ?_⟩
  obtain ⟨i, hi, rfl⟩ := List.mem_iff_getElem.1 hx
  have := hc i hi
  simp only [List.getD_eq_getElem?_getD, List.getElem?_eq_getElem hi, Option.getD_some] at this
  simpa [costOk] using this
theorem tree_know {up cost : List Int} (hU : upOk up) (hn : up.length ≤ 19) (hl : cost.length = up.length) (hc : ∀ i : Nat, i < cost.length → -2147483648 ≤ cost.getD i 0 ∧ cost.getD i 0 ≤ 2147483648) :
    ∃ cuts, cheapA (up.length + 1 : Nat) (parL up 1 up.length) cost 0 = (upto up.length, cuts, 0) ∧ sumY cuts = cost.sum ∧ PrvI (up.length + 1) (parL up 1 up.length) (costF cost) 0 cuts ∧ cuts.length ≤ 64 := by
  have hm := par_may hU hn hl hc
  have hpl := parL_length up 1 up.length
  obtain ⟨m', e, hm1, N, hcl, hcb⟩ := mayC_net hm
  obtain rfl : up.length + 1 = m' := by omega
  have hall : Plc (parL up 1 up.length) (upto up.length) := fun i hi => by have := mem_upto.1 hi; omega
  have hcome : ∀ k : Nat, ∀ u : Int, 0 ≤ u → u < k → u < (up.length + 1 : Nat) → u ∈ comeL (parL up 1 up.length) (upto up.length) (up.length + 1) 0 := by
    intro k
    induction k with
    | zero => intro u a b; omega
    | succ k ih =>
      intro u u0 uk un
      by_cases e0 : u = 0
      · subst e0; exact come_src N hall (by omega)
      · obtain ⟨a, b⟩ := par_tl (up := up) (n := up.length) (i := u - 1) (by omega) (by omega)
        have h2 := hU (u - 1).toNat (by omega)
        have h3 := come_step N hall (v := 0) (by omega) (i := u - 1) (mem_upto.2 (by omega)) (by
          rw [a]
          exact ih _ h2.1 (by omega) (by omega))
        rwa [b, show u - 1 + 1 = u by omega] at h3
  have harb : arborB (parL up 1 up.length) (up.length + 1) (upto up.length) 0 = true := by
    rw [arborB_iff]
    refine ⟨⟨isSet_upto (by omega), fun x hx => by have := mem_upto.1 hx; omega⟩, by simp, all_come N hall fun u a b => hcome (up.length + 1) u a b b⟩
  cases cheap_know hm with
  | ok t cuts e b s p l =>
    obtain ⟨p1, p2, _⟩ := arborB_iff.1 b.arb
    have ht : t = upto up.length := by
      have hb : ∀ x ∈ t, 0 ≤ x ∧ x < (up.length : Int) := fun x hx => by have := p1.lt x hx; omega
      have h1 := nodup_upto up.length
      refine up_ext p1.set.up (up_upto _) fun x => ⟨fun hx => mem_upto.2 (hb x hx), fun hx => ?_⟩
      have h2 : (⟨t, p1.set.up⟩ : FS) = FS.upTo up.length := FS.card_sub_eq (fun y hy => by rw [FS.mem_upTo]; exact hb y hy) (by rw [FS.card_upTo]; show up.length ≤ t.length; omega)
      have h3 : x ∈ FS.upTo up.length := by rw [FS.mem_upTo]; exact mem_upto.1 hx
      rw [← h2] at h3
      exact h3
    refine ⟨cuts, by rw [e, ht], ?_, p, l⟩
    rw [← s, ht, costS, ← hl]
    congr 1
    refine List.ext_getElem (by simp) fun i h1 h2 => ?_
    rw [List.getElem_map, upto_get]
    simp [costF, h2]
  | err S e no => exact absurd ⟨_, harb⟩ no
set_option maxHeartbeats 8000000 in
set_option maxRecDepth 20000 in
theorem trees_ret {up cost : List Int} (ha : okLen up) (hb : okLen cost) : Ret Try.prog w0 11 [ints up, ints cost] (B true) := by
  intro H
  refine w_enter Try.func11 rfl Try.ntmps11 (ts := [4]) rfl (by simp) (by kernel_rfl) ?_
  by_cases g1 : (20 : Int) < (up.length : Int) + 1
  · repeat' (first
      | (with_reducible refine awp_skip ?_)
      | (with_reducible refine then_any ?_)
      | (with_reducible refine then_ret ?_)
      | (with_reducible refine then_exit ?_)
      | (with_reducible refine inBlock_normal ?_)
      | (with_reducible refine inBlock_ret ?_)
      | (with_reducible refine inBlock_hit ?_)
      | (with_reducible refine inBlock_miss (by decide) ?_)
      | (with_reducible refine awp_ret ?_)
      | (with_reducible refine awp_exit ?_)
      | (with_reducible refine post_ret ?_)
      | (with_reducible refine post_normal ?_)
      | (with_reducible refine awp_block ?_)
      | (with_reducible refine awp_scope_ret ?_)
      | (with_reducible refine awp_label ?_)
      | (with_reducible refine v_reg [] (fun K hK => ?_))
      | (with_reducible refine v_reg1 [] (fun K hK => ?_))
      | (with_reducible refine v_draw mixed [] [] (by kernel_rfl) (fun K hK => ?_))
      | (with_reducible refine v_draw1 mixed [] [] (by kernel_rfl) (fun K hK => ?_))
      | (with_reducible refine ev_nil (hK _ _ ?_); clear hK K)
      | (with_reducible refine ed_nil (hK _ _ ?_); clear hK K)
      | ((first | with_reducible refine ev_cons (fun K' hK' => ?_) | with_reducible refine ed_cons (fun K' hK' => ?_) | (with_reducible refine ev_id ?_; refine ev_guard rfl (fun K' hK' => ?_)) | (with_reducible refine ed_id ?_; refine ed_guard rfl (fun K' hK' => ?_))); simp [ints, g1]; repeat' (first | (with_reducible refine hK' _ _ ?_; clear hK' K') | (with_reducible refine Ret.use fixed19_ret ?_; try simp [ints, g1]) | (with_reducible refine And.intro ?_ ?_) | (with_reducible intro hg) | (clear hK' K'; omega)))
      | (with_reducible refine w_cond (fun A B hA hB => ?_); simp [ints, g1]; repeat' (first | (with_reducible refine hA ?_; clear hA hB A B) | (with_reducible refine hB ?_; clear hA hB A B) | (with_reducible refine And.intro ?_ ?_) | (with_reducible intro hc)))
      | (with_reducible refine awp_seq ?_))
    all_goals (first | exact Sub.refl _ | simp)
  by_cases g2 : cost.length = up.length
  rotate_left
  · repeat' (first
      | (with_reducible refine awp_skip ?_)
      | (with_reducible refine then_any ?_)
      | (with_reducible refine then_ret ?_)
      | (with_reducible refine then_exit ?_)
      | (with_reducible refine inBlock_normal ?_)
      | (with_reducible refine inBlock_ret ?_)
      | (with_reducible refine inBlock_hit ?_)
      | (with_reducible refine inBlock_miss (by decide) ?_)
      | (with_reducible refine awp_ret ?_)
      | (with_reducible refine awp_exit ?_)
      | (with_reducible refine post_ret ?_)
      | (with_reducible refine post_normal ?_)
      | (with_reducible refine awp_block ?_)
      | (with_reducible refine awp_scope_ret ?_)
      | (with_reducible refine awp_label ?_)
      | (with_reducible refine v_reg [] (fun K hK => ?_))
      | (with_reducible refine v_reg1 [] (fun K hK => ?_))
      | (with_reducible refine v_draw mixed [] [] (by kernel_rfl) (fun K hK => ?_))
      | (with_reducible refine v_draw1 mixed [] [] (by kernel_rfl) (fun K hK => ?_))
      | (with_reducible refine ev_nil (hK _ _ ?_); clear hK K)
      | (with_reducible refine ed_nil (hK _ _ ?_); clear hK K)
      | ((first | with_reducible refine ev_cons (fun K' hK' => ?_) | with_reducible refine ed_cons (fun K' hK' => ?_) | (with_reducible refine ev_id ?_; refine ev_guard rfl (fun K' hK' => ?_)) | (with_reducible refine ed_id ?_; refine ed_guard rfl (fun K' hK' => ?_))); simp [ints, g1, g2]; repeat' (first | (with_reducible refine hK' _ _ ?_; clear hK' K') | (with_reducible refine Ret.use fixed19_ret ?_; try simp [ints, g1, g2]) | (with_reducible refine And.intro ?_ ?_) | (with_reducible intro hg) | (clear hK' K'; omega)))
      | (with_reducible refine w_cond (fun A B hA hB => ?_); simp [ints, g1, g2]; repeat' (first | (with_reducible refine hA ?_; clear hA hB A B) | (with_reducible refine hB ?_; clear hA hB A B) | (with_reducible refine And.intro ?_ ?_) | (with_reducible intro hc)))
      | (with_reducible refine awp_seq ?_))
    all_goals first
      | (exfalso; omega)
      | simp
  repeat' (first
    | (with_reducible refine awp_skip ?_)
    | (with_reducible refine then_any ?_)
    | (with_reducible refine then_ret ?_)
    | (with_reducible refine then_exit ?_)
    | (with_reducible refine inBlock_normal ?_)
    | (with_reducible refine inBlock_ret ?_)
    | (with_reducible refine inBlock_hit ?_)
    | (with_reducible refine inBlock_miss (by decide) ?_)
    | (with_reducible refine awp_ret ?_)
    | (with_reducible refine awp_exit ?_)
    | (with_reducible refine post_ret ?_)
    | (with_reducible refine post_normal ?_)
    | (with_reducible refine awp_block ?_)
    | (with_reducible refine awp_scope_ret ?_)
    | (with_reducible refine awp_label ?_)
    | (with_reducible refine v_reg [29] (fun K hK => ?_))
    | (with_reducible refine v_reg1 [29] (fun K hK => ?_))
    | (with_reducible refine v_draw mixed [29] [] (by kernel_rfl) (fun K hK => ?_))
    | (with_reducible refine v_draw1 mixed [29] [] (by kernel_rfl) (fun K hK => ?_))
    | (with_reducible refine ev_nil (hK _ _ ?_); clear hK K)
    | (with_reducible refine ed_nil (hK _ _ ?_); clear hK K)
    | ((first | with_reducible refine ev_cons (fun K' hK' => ?_) | with_reducible refine ed_cons (fun K' hK' => ?_) | (with_reducible refine ev_id ?_; refine ev_guard rfl (fun K' hK' => ?_)) | (with_reducible refine ed_id ?_; refine ed_guard rfl (fun K' hK' => ?_))); simp [ints, g1, g2]; repeat' (first | (with_reducible refine hK' _ _ ?_; clear hK' K') | (with_reducible refine Ret.use fixed19_ret ?_; try simp [ints, g1, g2]) | (with_reducible refine And.intro ?_ ?_) | (with_reducible intro hg) | (clear hK' K'; omega)))
    | (with_reducible refine w_cond (fun A B hA hB => ?_); simp [ints, g1, g2]; repeat' (first | (with_reducible refine hA ?_; clear hA hB A B) | (with_reducible refine hB ?_; clear hA hB A B) | (with_reducible refine And.intro ?_ ?_) | (with_reducible intro hc)))
    | (with_reducible refine awp_seq ?_))
  rename_i O
  have hO : H O = none := by assumption
  have hgc : ∀ i : Nat, ∀ h : i < cost.length, cost[i]'h = cost.getD i 0 := fun i h => by simp [h]
  have hgu : ∀ i : Nat, ∀ h : i < up.length, up[i]'h = up.getD i 0 := fun i h => by simp [h]
  have hsum : ∀ i, i < cost.length → (cost.take (i + 1)).sum = (cost.take i).sum + cost.getD i 0 := fun i h => by
    rw [List.take_succ_eq_append_getElem h, List.sum_append, hgc i h]; simp
  refine awp_loop (fun env h => ∃ i : Nat, i ≤ up.length ∧ (∀ q : Nat, q < i → 0 ≤ up.getD q 0 ∧ up.getD q 0 ≤ q) ∧ (∀ q : Nat, q < i → -2147483648 ≤ cost.getD q 0 ∧ cost.getD q 0 ≤ 2147483648) ∧
      (-2147483648 * (i : Int) ≤ (cost.take i).sum ∧ (cost.take i).sum ≤ 2147483648 * (i : Int)) ∧ env 8 = I i ∧ env 7 = I (cost.take i).sum ∧ env 0 = ints up ∧ env 1 = ints cost ∧ env 5 = I (up.length + 1 : Nat) ∧ env 6 = .ref O 0 i i ∧
      h = upd H O (some (.arr 2 44 ((parL up 1 i).flatMap fun e => [I e.1, I e.2]) i))) (fun env _ => up.length - natA (env 8)) ?_ ?_
  · exact ⟨0, by omega, fun q hq => by omega, fun q hq => by omega, by simp, by simp, by simp, by simp [ints], by simp [ints, g2], by simp, by simp, by simp [parL]⟩
  rintro env h ⟨i, hi, hok, hco, hsb, h8, h7, h0, h1, h5, h6, rfl⟩
  have hnat : natA (env 8) = i := by simp [h8]
  rw [hnat]; clear hnat
  by_cases hil : i < up.length
  · have hic : i < cost.length := by omega
    have e1 := hgu i hil
    have e2 := hgc i hic
    have e3 := hsum i hic
    have e4 : (parL up 1 (i + 1)).flatMap (fun e => [I e.1, I e.2]) = (parL up 1 i).flatMap (fun e => [I e.1, I e.2]) ++ [I (up.getD i 0), I ((i : Int) + 1)] := by
      rw [parL, List.flatMap_append]; rfl
    generalize hy : up.getD i 0 = y at *
    by_cases u1 : y < 0
    · repeat' (first
        | (with_reducible refine awp_skip ?_)
        | (with_reducible refine then_any ?_)
        | (with_reducible refine then_ret ?_)
        | (with_reducible refine then_exit ?_)
        | (with_reducible refine inBlock_normal ?_)
        | (with_reducible refine inBlock_ret ?_)
        | (with_reducible refine inBlock_hit ?_)
        | (with_reducible refine inBlock_miss (by decide) ?_)
        | (with_reducible refine awp_ret ?_)
        | (with_reducible refine awp_exit ?_)
        | (with_reducible refine post_ret ?_)
        | (with_reducible refine post_normal ?_)
        | (with_reducible refine awp_block ?_)
        | (with_reducible refine awp_scope_ret ?_)
        | (with_reducible refine awp_label ?_)
        | (with_reducible refine v_reg [] (fun K hK => ?_))
        | (with_reducible refine v_reg1 [] (fun K hK => ?_))
        | (with_reducible refine v_draw mixed [] [] (by kernel_rfl) (fun K hK => ?_))
        | (with_reducible refine v_draw1 mixed [] [] (by kernel_rfl) (fun K hK => ?_))
        | (with_reducible refine ev_nil (hK _ _ ?_); clear hK K)
        | (with_reducible refine ed_nil (hK _ _ ?_); clear hK K)
        | ((first | with_reducible refine ev_cons (fun K' hK' => ?_) | with_reducible refine ed_cons (fun K' hK' => ?_) | (with_reducible refine ev_id ?_; refine ev_guard rfl (fun K' hK' => ?_)) | (with_reducible refine ed_id ?_; refine ed_guard rfl (fun K' hK' => ?_))); simp [h8, h7, h0, h1, h5, h6, ints, hil, hic, e1, e2, u1]; repeat' (first | (with_reducible refine hK' _ _ ?_; clear hK' K') | (with_reducible refine And.intro ?_ ?_) | (with_reducible intro hg) | (clear hK' K'; omega)))
        | (with_reducible refine w_cond (fun A B hA hB => ?_); simp [h8, h7, h0, h1, h5, h6, ints, hil, hic, e1, e2, u1]; repeat' (first | (with_reducible refine hA ?_; clear hA hB A B) | (with_reducible refine hB ?_; clear hA hB A B) | (with_reducible refine And.intro ?_ ?_) | (with_reducible intro hc)))
        | (with_reducible refine awp_seq ?_))
      all_goals exact ⟨by simp, sub_new hO⟩
    by_cases u2 : (i : Int) < y
    · repeat' (first
        | (with_reducible refine awp_skip ?_)
        | (with_reducible refine then_any ?_)
        | (with_reducible refine then_ret ?_)
        | (with_reducible refine then_exit ?_)
        | (with_reducible refine inBlock_normal ?_)
        | (with_reducible refine inBlock_ret ?_)
        | (with_reducible refine inBlock_hit ?_)
        | (with_reducible refine inBlock_miss (by decide) ?_)
        | (with_reducible refine awp_ret ?_)
        | (with_reducible refine awp_exit ?_)
        | (with_reducible refine post_ret ?_)
        | (with_reducible refine post_normal ?_)
        | (with_reducible refine awp_block ?_)
        | (with_reducible refine awp_scope_ret ?_)
        | (with_reducible refine awp_label ?_)
        | (with_reducible refine v_reg [] (fun K hK => ?_))
        | (with_reducible refine v_reg1 [] (fun K hK => ?_))
        | (with_reducible refine v_draw mixed [] [] (by kernel_rfl) (fun K hK => ?_))
        | (with_reducible refine v_draw1 mixed [] [] (by kernel_rfl) (fun K hK => ?_))
        | (with_reducible refine ev_nil (hK _ _ ?_); clear hK K)
        | (with_reducible refine ed_nil (hK _ _ ?_); clear hK K)
        | ((first | with_reducible refine ev_cons (fun K' hK' => ?_) | with_reducible refine ed_cons (fun K' hK' => ?_) | (with_reducible refine ev_id ?_; refine ev_guard rfl (fun K' hK' => ?_)) | (with_reducible refine ed_id ?_; refine ed_guard rfl (fun K' hK' => ?_))); simp [h8, h7, h0, h1, h5, h6, ints, hil, hic, e1, e2, u1, u2]; repeat' (first | (with_reducible refine hK' _ _ ?_; clear hK' K') | (with_reducible refine And.intro ?_ ?_) | (with_reducible intro hg) | (clear hK' K'; omega)))
        | (with_reducible refine w_cond (fun A B hA hB => ?_); simp [h8, h7, h0, h1, h5, h6, ints, hil, hic, e1, e2, u1, u2]; repeat' (first | (with_reducible refine hA ?_; clear hA hB A B) | (with_reducible refine hB ?_; clear hA hB A B) | (with_reducible refine And.intro ?_ ?_) | (with_reducible intro hc)))
        | (with_reducible refine awp_seq ?_))
      all_goals exact ⟨by simp, sub_new hO⟩
    generalize hz : cost.getD i 0 = z at *
    by_cases u3 : z < -2147483648
    · repeat' (first
        | (with_reducible refine awp_skip ?_)
        | (with_reducible refine then_any ?_)
        | (with_reducible refine then_ret ?_)
        | (with_reducible refine then_exit ?_)
        | (with_reducible refine inBlock_normal ?_)
        | (with_reducible refine inBlock_ret ?_)
        | (with_reducible refine inBlock_hit ?_)
        | (with_reducible refine inBlock_miss (by decide) ?_)
        | (with_reducible refine awp_ret ?_)
        | (with_reducible refine awp_exit ?_)
        | (with_reducible refine post_ret ?_)
        | (with_reducible refine post_normal ?_)
        | (with_reducible refine awp_block ?_)
        | (with_reducible refine awp_scope_ret ?_)
        | (with_reducible refine awp_label ?_)
        | (with_reducible refine v_reg [] (fun K hK => ?_))
        | (with_reducible refine v_reg1 [] (fun K hK => ?_))
        | (with_reducible refine v_draw mixed [] [] (by kernel_rfl) (fun K hK => ?_))
        | (with_reducible refine v_draw1 mixed [] [] (by kernel_rfl) (fun K hK => ?_))
        | (with_reducible refine ev_nil (hK _ _ ?_); clear hK K)
        | (with_reducible refine ed_nil (hK _ _ ?_); clear hK K)
        | ((first | with_reducible refine ev_cons (fun K' hK' => ?_) | with_reducible refine ed_cons (fun K' hK' => ?_) | (with_reducible refine ev_id ?_; refine ev_guard rfl (fun K' hK' => ?_)) | (with_reducible refine ed_id ?_; refine ed_guard rfl (fun K' hK' => ?_))); simp [h8, h7, h0, h1, h5, h6, ints, hil, hic, e1, e2, u1, u2, u3]; repeat' (first | (with_reducible refine hK' _ _ ?_; clear hK' K') | (with_reducible refine And.intro ?_ ?_) | (with_reducible intro hg) | (clear hK' K'; omega)))
        | (with_reducible refine w_cond (fun A B hA hB => ?_); simp [h8, h7, h0, h1, h5, h6, ints, hil, hic, e1, e2, u1, u2, u3]; repeat' (first | (with_reducible refine hA ?_; clear hA hB A B) | (with_reducible refine hB ?_; clear hA hB A B) | (with_reducible refine And.intro ?_ ?_) | (with_reducible intro hc)))
        | (with_reducible refine awp_seq ?_))
      all_goals exact ⟨by simp, sub_new hO⟩
    by_cases u4 : 2147483648 < z
    · repeat' (first
        | (with_reducible refine awp_skip ?_)
        | (with_reducible refine then_any ?_)
        | (with_reducible refine then_ret ?_)
        | (with_reducible refine then_exit ?_)
        | (with_reducible refine inBlock_normal ?_)
        | (with_reducible refine inBlock_ret ?_)
        | (with_reducible refine inBlock_hit ?_)
        | (with_reducible refine inBlock_miss (by decide) ?_)
        | (with_reducible refine awp_ret ?_)
        | (with_reducible refine awp_exit ?_)
        | (with_reducible refine post_ret ?_)
        | (with_reducible refine post_normal ?_)
        | (with_reducible refine awp_block ?_)
        | (with_reducible refine awp_scope_ret ?_)
        | (with_reducible refine awp_label ?_)
        | (with_reducible refine v_reg [] (fun K hK => ?_))
        | (with_reducible refine v_reg1 [] (fun K hK => ?_))
        | (with_reducible refine v_draw mixed [] [] (by kernel_rfl) (fun K hK => ?_))
        | (with_reducible refine v_draw1 mixed [] [] (by kernel_rfl) (fun K hK => ?_))
        | (with_reducible refine ev_nil (hK _ _ ?_); clear hK K)
        | (with_reducible refine ed_nil (hK _ _ ?_); clear hK K)
        | ((first | with_reducible refine ev_cons (fun K' hK' => ?_) | with_reducible refine ed_cons (fun K' hK' => ?_) | (with_reducible refine ev_id ?_; refine ev_guard rfl (fun K' hK' => ?_)) | (with_reducible refine ed_id ?_; refine ed_guard rfl (fun K' hK' => ?_))); simp [h8, h7, h0, h1, h5, h6, ints, hil, hic, e1, e2, u1, u2, u3, u4]; repeat' (first | (with_reducible refine hK' _ _ ?_; clear hK' K') | (with_reducible refine And.intro ?_ ?_) | (with_reducible intro hg) | (clear hK' K'; omega)))
        | (with_reducible refine w_cond (fun A B hA hB => ?_); simp [h8, h7, h0, h1, h5, h6, ints, hil, hic, e1, e2, u1, u2, u3, u4]; repeat' (first | (with_reducible refine hA ?_; clear hA hB A B) | (with_reducible refine hB ?_; clear hA hB A B) | (with_reducible refine And.intro ?_ ?_) | (with_reducible intro hc)))
        | (with_reducible refine awp_seq ?_))
      all_goals exact ⟨by simp, sub_new hO⟩
    repeat' (first
      | (with_reducible refine awp_skip ?_)
      | (with_reducible refine then_any ?_)
      | (with_reducible refine then_ret ?_)
      | (with_reducible refine then_exit ?_)
      | (with_reducible refine inBlock_normal ?_)
      | (with_reducible refine inBlock_ret ?_)
      | (with_reducible refine inBlock_hit ?_)
      | (with_reducible refine inBlock_miss (by decide) ?_)
      | (with_reducible refine awp_ret ?_)
      | (with_reducible refine awp_exit ?_)
      | (with_reducible refine post_ret ?_)
      | (with_reducible refine post_normal ?_)
      | (with_reducible refine awp_block ?_)
      | (with_reducible refine awp_scope_ret ?_)
      | (with_reducible refine awp_label ?_)
      | (with_reducible refine v_reg [] (fun K hK => ?_))
      | (with_reducible refine v_reg1 [] (fun K hK => ?_))
      | (with_reducible refine v_draw mixed [] [] (by kernel_rfl) (fun K hK => ?_))
      | (with_reducible refine v_draw1 mixed [] [] (by kernel_rfl) (fun K hK => ?_))
      | (with_reducible refine ev_nil (hK _ _ ?_); clear hK K)
      | (with_reducible refine ed_nil (hK _ _ ?_); clear hK K)
      | ((first | with_reducible refine ev_cons (fun K' hK' => ?_) | with_reducible refine ed_cons (fun K' hK' => ?_) | (with_reducible refine ev_id ?_; refine ev_guard rfl (fun K' hK' => ?_)) | (with_reducible refine ed_id ?_; refine ed_guard rfl (fun K' hK' => ?_))); simp [h8, h7, h0, h1, h5, h6, ints, hil, hic, e1, e2, u1, u2, u3, u4]; repeat' (first | (with_reducible refine hK' _ _ ?_; clear hK' K') | (with_reducible refine And.intro ?_ ?_) | (with_reducible intro hg) | (clear hK' K'; omega)))
      | (with_reducible refine w_cond (fun A B hA hB => ?_); simp [h8, h7, h0, h1, h5, h6, ints, hil, hic, e1, e2, u1, u2, u3, u4]; repeat' (first | (with_reducible refine hA ?_; clear hA hB A B) | (with_reducible refine hB ?_; clear hA hB A B) | (with_reducible refine And.intro ?_ ?_) | (with_reducible intro hc)))
      | (with_reducible refine awp_seq ?_))
    have hok' : ∀ q : Nat, q < i + 1 → 0 ≤ up.getD q 0 ∧ up.getD q 0 ≤ q := fun q hq => by
      by_cases e : q = i
      · subst e; rw [hy]; omega
      · exact hok q (by omega)
    have hco' : ∀ q : Nat, q < i + 1 → -2147483648 ≤ cost.getD q 0 ∧ cost.getD q 0 ≤ 2147483648 := fun q hq => by
      by_cases e : q = i
      · subst e; rw [hz]; omega
      · exact hco q (by omega)
    exact ⟨⟨i + 1, by omega, hok', hco', by rw [e3]; push_cast; omega, by simp, by simp [e3], by simp [h0, ints], by simp [h1, ints], by simp [h5], by simp, by rw [e4]⟩, by simp; omega⟩
  · have : i = up.length := by omega
    subst this
    obtain ⟨cuts, k1, k2, k3, k4⟩ := tree_know (up := up) (cost := cost) hok (by omega) g2 (fun i hi => hco i (by omega))
    have hpl := parL_length up 1 up.length
    rw [Nat.mul_one] at hpl
    rw [← g2, List.take_length, ← k2] at h7
    repeat' (first
      | (with_reducible refine awp_skip ?_)
      | (with_reducible refine then_any ?_)
      | (with_reducible refine then_ret ?_)
      | (with_reducible refine then_exit ?_)
      | (with_reducible refine inBlock_normal ?_)
      | (with_reducible refine inBlock_ret ?_)
      | (with_reducible refine inBlock_hit ?_)
      | (with_reducible refine inBlock_miss (by decide) ?_)
      | (with_reducible refine awp_ret ?_)
      | (with_reducible refine awp_exit ?_)
      | (with_reducible refine post_ret ?_)
      | (with_reducible refine post_normal ?_)
      | (with_reducible refine awp_block ?_)
      | (with_reducible refine awp_scope_ret ?_)
      | (with_reducible refine awp_label ?_)
      | ((fail_if_success (with_reducible refine at_reg 12 ?_)); with_reducible refine v_reg [] (fun K hK => ?_))
      | ((fail_if_success (with_reducible refine (?_ : AWP _ _ _ (Code.region 12 _ _) _ _ _))); with_reducible refine v_reg1 [] (fun K hK => ?_))
      | ((fail_if_success (with_reducible refine at_reg 12 ?_)); with_reducible refine v_draw mixed [] [] (by kernel_rfl) (fun K hK => ?_))
      | ((fail_if_success (with_reducible refine (?_ : AWP _ _ _ (Code.region 12 _ _) _ _ _))); with_reducible refine v_draw1 mixed [] [] (by kernel_rfl) (fun K hK => ?_))
      | (with_reducible refine ev_nil (hK _ _ ?_); clear hK K)
      | (with_reducible refine ed_nil (hK _ _ ?_); clear hK K)
      | ((first | with_reducible refine ev_cons (fun K' hK' => ?_) | with_reducible refine ed_cons (fun K' hK' => ?_) | (with_reducible refine ev_id ?_; refine ev_guard rfl (fun K' hK' => ?_)) | (with_reducible refine ed_id ?_; refine ed_guard rfl (fun K' hK' => ?_))); simp [h8, h0]; repeat' (first | (with_reducible refine hK' _ _ ?_; clear hK' K') | (with_reducible refine And.intro ?_ ?_) | (with_reducible intro hg) | (clear hK' K'; omega)))
      | (with_reducible refine w_cond (fun A B hA hB => ?_); simp [h8, h0]; repeat' (first | (with_reducible refine hA ?_; clear hA hB A B) | (with_reducible refine hB ?_; clear hA hB A B) | (with_reducible refine And.intro ?_ ?_) | (with_reducible intro hc)))
      | ((fail_if_success (with_reducible refine at_reg 12 ?_)); with_reducible refine awp_seq ?_))
    refine awp_freeze 6 (r := O) (off := 0) (len := up.length) (top := up.length) (by simp [h6]) (upd_same _ _ _) ?_
    rw [cut_pairs _ hpl.symm, upd_upd, upd_none_self hO]
    have c1 := cheap_ret (w0 := w0) (n := (up.length + 1 : Nat)) (root := 0) (arcs := parL up 1 up.length) (cost := cost) (by simp only [okLen]; omega) hb
    rw [k1] at c1
    have c2 := all19_ret (w0 := w0) (n := up.length) (by omega)
    have c3 := same_ret (w0 := w0) (a := upto up.length) (b := upto up.length) (by simp only [okLen, upto_length]; omega) (by simp only [okLen, upto_length]; omega)
    have c4 := proves_ret (w0 := w0) (by omega) (by omega) (by omega) (by omega) k3
    simp only [decide_true] at c3
    generalize sumY cuts = z at *
    simp only [cheapV, ints, upto_length, cutsA] at c1 c2 c3 c4 h0 h1
    generalize hnn : ((up.length + 1 : Nat) : Int) = nn at *
    repeat' (first
      | (with_reducible refine awp_skip ?_)
      | (with_reducible refine then_any ?_)
      | (with_reducible refine then_ret ?_)
      | (with_reducible refine then_exit ?_)
      | (with_reducible refine inBlock_normal ?_)
      | (with_reducible refine inBlock_ret ?_)
      | (with_reducible refine inBlock_hit ?_)
      | (with_reducible refine inBlock_miss (by decide) ?_)
      | (with_reducible refine awp_ret ?_)
      | (with_reducible refine awp_exit ?_)
      | (with_reducible refine post_ret ?_)
      | (with_reducible refine post_normal ?_)
      | (with_reducible refine awp_block ?_)
      | (with_reducible refine awp_scope_ret ?_)
      | (with_reducible refine awp_label ?_)
      | (with_reducible refine v_reg [] (fun K hK => ?_))
      | (with_reducible refine v_reg1 [] (fun K hK => ?_))
      | (with_reducible refine v_draw mixed [] [] (by kernel_rfl) (fun K hK => ?_))
      | (with_reducible refine v_draw1 mixed [] [] (by kernel_rfl) (fun K hK => ?_))
      | (with_reducible refine ev_nil (hK _ _ ?_); clear hK K)
      | (with_reducible refine ed_nil (hK _ _ ?_); clear hK K)
      | ((first | with_reducible refine ev_cons (fun K' hK' => ?_) | with_reducible refine ed_cons (fun K' hK' => ?_) | (with_reducible refine ev_id ?_; refine ev_guard rfl (fun K' hK' => ?_)) | (with_reducible refine ed_id ?_; refine ed_guard rfl (fun K' hK' => ?_))); simp [h0, h1, h5, h7]; repeat' (first | (with_reducible refine hK' _ _ ?_; clear hK' K') | (with_reducible refine Ret.use c1 ?_; try simp [h0, h1, h5, h7]) | (with_reducible refine Ret.use c2 ?_; try simp [h0, h1, h5, h7]) | (with_reducible refine Ret.use c3 ?_; try simp [h0, h1, h5, h7]) | (with_reducible refine Ret.use c4 ?_; try simp [h0, h1, h5, h7]) | (with_reducible refine And.intro ?_ ?_) | (with_reducible intro hg) | (clear hK' K'; omega)))
      | (with_reducible refine w_cond (fun A B hA hB => ?_); simp [h0, h1, h5, h7]; repeat' (first | (with_reducible refine hA ?_; clear hA hB A B) | (with_reducible refine hB ?_; clear hA hB A B) | (with_reducible refine And.intro ?_ ?_) | (with_reducible intro hc)))
      | (with_reducible refine awp_seq ?_))
    all_goals (first | exact Sub.refl _ | simp)
end Go.Am
