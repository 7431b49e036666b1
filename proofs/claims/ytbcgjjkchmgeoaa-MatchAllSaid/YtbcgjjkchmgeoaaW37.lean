/- Contracts: Max. -/
import Derived.Test.YtbcgjjkchmgeoaaW36
namespace Go.Am
open Go Go.Proofs
set_option linter.unusedVariables false
set_option linter.unusedSimpArgs false
variable {w0 : World}
attribute [local irreducible] AWP ACalls
attribute [local congr] acalls_congr

/-- Whom each on the left goes with. -/
def leftL (n : Nat) (f : Int → Int) : List Int := (upto n).map f
theorem leftL_length (n : Nat) (f : Int → Int) : (leftL n f).length = n := by simp [leftL]
theorem leftL_get {n i : Nat} (f : Int → Int) (h : i < (leftL n f).length) : (leftL n f)[i] = f i := by simp [leftL, upto_get]
theorem ints_leftL (n : Nat) (f : Int → Int) : ints (leftL n f) = .sl (labI n f) n := by simp [ints, leftL, labI]

theorem cntM_take {n : Nat} {f : Int → Int} {k : Nat} (h : k < n) : ((upto n).take (k + 1)).countP (fun j => decide (f j ≠ -1)) = ((upto n).take k).countP (fun j => decide (f j ≠ -1)) + if f k = -1 then 0 else 1 := by
  have hl : k < (upto n).length := by simpa using h
  rw [List.take_succ_eq_append_getElem hl, List.countP_append, upto_get]
  simp [List.countP_cons, ite_not]

set_option maxHeartbeats 4000000 in
theorem max_use {H : Heap} {m : Nat} {adj : List (List Int)} (ha : okLen adj) (hl : ∀ l ∈ adj, okLen l) (hG : GrM m adj) {K : AV → Heap → Prop}
    (k : ∀ f g, MInv m adj adj.length f g → K (.tup [ints (leftL adj.length f), I (cntM adj.length f)]) H) : ACalls Try.prog w0 50 [I m, rows adj] H K := by
  have hmay : mayM m adj = true := mayM_iff.2 ⟨m, rfl, hG⟩
  refine (?_ : ACalls Try.prog w0 50 [I m, rows adj] H (fun v H' => ∃ f g, MInv m adj adj.length f g ∧ v = .tup [ints (leftL adj.length f), I (cntM adj.length f)] ∧ Sub H H')).drop ?_
  rotate_left
  · rintro v H' ⟨f, g, hi, rfl, s⟩
    exact ⟨_, s, k f g hi⟩
  clear k K
  have hn := hG.nle
  have hm := hG.mle
  refine w_enter Try.func50 rfl Try.ntmps50 (ts := [4, 5]) rfl (by simp) (by kernel_rfl) ?_
  repeat' (first
    | (with_reducible refine awp_skip ?_)
    | (with_reducible refine then_any ?_)
    | (with_reducible refine then_ret ?_)
    | (with_reducible refine then_exit ?_)
    | (with_reducible refine inBlock_normal ?_)
    | (with_reducible refine inBlock_ret ?_)
    | (with_reducible refine inBlock_hit ?_)
    | (with_reducible refine inBlock_miss (by decide) ?_)
    | (with_reducible refine awp_ret ?_)
    | (with_reducible refine awp_exit ?_)
    | (with_reducible refine post_ret ?_)
    | (with_reducible refine post_normal ?_)
    | (with_reducible refine awp_block ?_)
    | (with_reducible refine v_reg [] (fun K hK => ?_))
    | (with_reducible refine v_reg1 [] (fun K hK => ?_))
    | (with_reducible refine v_draw mixed [] [] (by kernel_rfl) (fun K hK => ?_))
    | (with_reducible refine v_draw1 mixed [] [] (by kernel_rfl) (fun K hK => ?_))
    | (with_reducible refine ev_nil (hK _ _ ?_); clear hK K)
    | (with_reducible refine ed_nil (hK _ _ ?_); clear hK K)
    | ((first | with_reducible refine ev_cons (fun K' hK' => ?_) | with_reducible refine ed_cons (fun K' hK' => ?_) | (with_reducible refine ev_id ?_; refine ev_guard rfl (fun K' hK' => ?_)) | (with_reducible refine ed_id ?_; refine ed_guard rfl (fun K' hK' => ?_))); simp [rows, hmay, mf_F, mf_L]; repeat' (first | (with_reducible refine hK' _ _ ?_; clear hK' K') | (with_reducible refine Ret.use (matchMay_ret ha hl) ?_; try simp [rows, hmay, mf_F, mf_L]) | ((with_reducible refine greatest_use hG (fun F L R f g z d hi => ?_)); try simp [rows, hmay, mf_F, mf_L]) | (with_reducible refine And.intro ?_ ?_) | (with_reducible intro hg) | (clear hK' K'; omega)))
    | (with_reducible refine w_cond (fun A B hA hB => ?_); simp [rows, hmay, mf_F, mf_L]; repeat' (first | (with_reducible refine hA ?_; clear hA hB A B) | (with_reducible refine hB ?_; clear hA hB A B) | (with_reducible refine And.intro ?_ ?_) | (with_reducible intro hc)))
    | (with_reducible refine awp_seq ?_))
  refine awp_loop (fun env h => ∃ (q c : Nat), q ≤ adj.length ∧ c = ((upto adj.length).take q).countP (fun j => decide (f j ≠ -1)) ∧ env 22 = I q ∧ env 21 = I adj.length ∧ env 20 = .ref L 0 adj.length adj.length ∧ env 6 = .ptr F 0 0 ∧ env 7 = I c ∧ h = mf H F L R adj m f g z) (fun env _ => adj.length - natA (env 22)) ?_ ?_
  · exact ⟨0, 0, by omega, by simp, by simp, by simp, by simp, by simp, by simp, rfl⟩
  rintro env h ⟨q, c, hq, hc0, h22, h21, h20, h6, h7, rfl⟩
  have hnat : natA (env 22) = q := by simp [h22]
  rw [hnat]; clear hnat
  have hcl : c ≤ 64 := by
    rw [hc0]
    refine Nat.le_trans List.countP_le_length ?_
    rw [List.length_take]; omega
  by_cases hlt : q < adj.length
  · have hct := cntM_take (f := f) hlt
    have hL : ∀ h, (labI adj.length f)[q]'h = I (f q) := fun h => labI_at (x := (q : Int)) (by omega) (by simpa using h)
    have hqL : q < (labI adj.length f).length := by rw [labI_length]; exact hlt
    by_cases hfq : f q = -1
    · rw [if_pos hfq] at hct
      repeat' (first
        | (with_reducible refine awp_skip ?_)
        | (with_reducible refine then_any ?_)
        | (with_reducible refine then_ret ?_)
        | (with_reducible refine then_exit ?_)
        | (with_reducible refine inBlock_normal ?_)
        | (with_reducible refine inBlock_ret ?_)
        | (with_reducible refine inBlock_hit ?_)
        | (with_reducible refine inBlock_miss (by decide) ?_)
        | (with_reducible refine awp_ret ?_)
        | (with_reducible refine awp_exit ?_)
        | (with_reducible refine post_ret ?_)
        | (with_reducible refine post_normal ?_)
        | (with_reducible refine awp_block ?_)
        | (with_reducible refine v_reg [] (fun K hK => ?_))
        | (with_reducible refine v_reg1 [] (fun K hK => ?_))
        | (with_reducible refine v_draw mixed [] [] (by kernel_rfl) (fun K hK => ?_))
        | (with_reducible refine v_draw1 mixed [] [] (by kernel_rfl) (fun K hK => ?_))
        | (with_reducible refine ev_nil (hK _ _ ?_); clear hK K)
        | (with_reducible refine ed_nil (hK _ _ ?_); clear hK K)
        | ((first | with_reducible refine ev_cons (fun K' hK' => ?_) | with_reducible refine ed_cons (fun K' hK' => ?_) | (with_reducible refine ev_id ?_; refine ev_guard rfl (fun K' hK' => ?_)) | (with_reducible refine ed_id ?_; refine ed_guard rfl (fun K' hK' => ?_))); simp [h22, h21, h20, h6, h7, hlt, mf_F, mf_L d, hL, hqL, labI_length, hfq]; repeat' (first | (with_reducible refine hK' _ _ ?_; clear hK' K') | (with_reducible refine And.intro ?_ ?_) | (with_reducible intro hg) | (clear hK' K'; omega)))
        | (with_reducible refine w_cond (fun A B hA hB => ?_); simp [h22, h21, h20, h6, h7, hlt, mf_F, mf_L d, hL, hqL, labI_length, hfq]; repeat' (first | (with_reducible refine hA ?_; clear hA hB A B) | (with_reducible refine hB ?_; clear hA hB A B) | (with_reducible refine And.intro ?_ ?_) | (with_reducible intro hc)))
        | (with_reducible refine awp_seq ?_))
      all_goals try omega
      exact ⟨⟨q + 1, c, by omega, by rw [hct, hc0]; rfl, by simp, by simp [h21], by simp [h20], by simp [h6], by simp [h7], rfl⟩, by simp; omega⟩
    · rw [if_neg hfq] at hct
      repeat' (first
        | (with_reducible refine awp_skip ?_)
        | (with_reducible refine then_any ?_)
        | (with_reducible refine then_ret ?_)
        | (with_reducible refine then_exit ?_)
        | (with_reducible refine inBlock_normal ?_)
        | (with_reducible refine inBlock_ret ?_)
        | (with_reducible refine inBlock_hit ?_)
        | (with_reducible refine inBlock_miss (by decide) ?_)
        | (with_reducible refine awp_ret ?_)
        | (with_reducible refine awp_exit ?_)
        | (with_reducible refine post_ret ?_)
        | (with_reducible refine post_normal ?_)
        | (with_reducible refine awp_block ?_)
        | (with_reducible refine v_reg [] (fun K hK => ?_))
        | (with_reducible refine v_reg1 [] (fun K hK => ?_))
        | (with_reducible refine v_draw mixed [] [] (by kernel_rfl) (fun K hK => ?_))
        | (with_reducible refine v_draw1 mixed [] [] (by kernel_rfl) (fun K hK => ?_))
        | (with_reducible refine ev_nil (hK _ _ ?_); clear hK K)
        | (with_reducible refine ed_nil (hK _ _ ?_); clear hK K)
        | ((first | with_reducible refine ev_cons (fun K' hK' => ?_) | with_reducible refine ed_cons (fun K' hK' => ?_) | (with_reducible refine ev_id ?_; refine ev_guard rfl (fun K' hK' => ?_)) | (with_reducible refine ed_id ?_; refine ed_guard rfl (fun K' hK' => ?_))); simp [h22, h21, h20, h6, h7, hlt, mf_F, mf_L d, hL, hqL, labI_length, hfq]; repeat' (first | (with_reducible refine hK' _ _ ?_; clear hK' K') | (with_reducible refine And.intro ?_ ?_) | (with_reducible intro hg) | (clear hK' K'; omega)))
        | (with_reducible refine w_cond (fun A B hA hB => ?_); simp [h22, h21, h20, h6, h7, hlt, mf_F, mf_L d, hL, hqL, labI_length, hfq]; repeat' (first | (with_reducible refine hA ?_; clear hA hB A B) | (with_reducible refine hB ?_; clear hA hB A B) | (with_reducible refine And.intro ?_ ?_) | (with_reducible intro hc)))
        | (with_reducible refine awp_seq ?_))
      all_goals try omega
      exact ⟨⟨q + 1, c + 1, by omega, by rw [hct, hc0], by simp, by simp [h21], by simp [h20], by simp [h6], by simp, rfl⟩, by simp; omega⟩
  · have : q = adj.length := by omega
    subst this
    have htk : (upto adj.length).take adj.length = upto adj.length := List.take_of_length_le (by simp)
    rw [htk] at hc0
    have hcn : c = cntM adj.length f := hc0
    repeat' (first
      | (with_reducible refine awp_skip ?_)
      | (with_reducible refine then_any ?_)
      | (with_reducible refine then_ret ?_)
      | (with_reducible refine then_exit ?_)
      | (with_reducible refine inBlock_normal ?_)
      | (with_reducible refine inBlock_ret ?_)
      | (with_reducible refine inBlock_hit ?_)
      | (with_reducible refine inBlock_miss (by decide) ?_)
      | (with_reducible refine awp_exit ?_)
      | (with_reducible refine post_ret ?_)
      | (with_reducible refine post_normal ?_)
      | (with_reducible refine awp_block ?_)
      | (with_reducible refine v_reg [] (fun K hK => ?_))
      | (with_reducible refine v_reg1 [] (fun K hK => ?_))
      | (with_reducible refine v_draw mixed [] [] (by kernel_rfl) (fun K hK => ?_))
      | (with_reducible refine v_draw1 mixed [] [] (by kernel_rfl) (fun K hK => ?_))
      | (with_reducible refine ev_nil (hK _ _ ?_); clear hK K)
      | (with_reducible refine ed_nil (hK _ _ ?_); clear hK K)
      | ((first | with_reducible refine ev_cons (fun K' hK' => ?_) | with_reducible refine ed_cons (fun K' hK' => ?_) | (with_reducible refine ev_id ?_; refine ev_guard rfl (fun K' hK' => ?_)) | (with_reducible refine ed_id ?_; refine ed_guard rfl (fun K' hK' => ?_))); simp [h22, h21, h20, h6, h7, mf_F]; repeat' (first | (with_reducible refine hK' _ _ ?_; clear hK' K') | (with_reducible refine And.intro ?_ ?_) | (with_reducible intro hg) | (clear hK' K'; omega)))
      | (with_reducible refine w_cond (fun A B hA hB => ?_); simp [h22, h21, h20, h6, h7, mf_F]; repeat' (first | (with_reducible refine hA ?_; clear hA hB A B) | (with_reducible refine hB ?_; clear hA hB A B) | (with_reducible refine And.intro ?_ ?_) | (with_reducible intro hc)))
      | (with_reducible refine awp_seq ?_))
    refine awp_freeze 4 (r := L) (off := 0) (len := adj.length) (top := adj.length) (by simp) (mf_L d) ?_
    repeat' (first
      | (with_reducible refine awp_skip ?_)
      | (with_reducible refine then_any ?_)
      | (with_reducible refine then_ret ?_)
      | (with_reducible refine then_exit ?_)
      | (with_reducible refine inBlock_normal ?_)
      | (with_reducible refine inBlock_ret ?_)
      | (with_reducible refine inBlock_hit ?_)
      | (with_reducible refine inBlock_miss (by decide) ?_)
      | (with_reducible refine awp_ret ?_)
      | (with_reducible refine awp_exit ?_)
      | (with_reducible refine post_ret ?_)
      | (with_reducible refine post_normal ?_)
      | (with_reducible refine awp_block ?_)
      | (with_reducible refine v_reg [] (fun K hK => ?_))
      | (with_reducible refine v_reg1 [] (fun K hK => ?_))
      | (with_reducible refine v_draw mixed [] [] (by kernel_rfl) (fun K hK => ?_))
      | (with_reducible refine v_draw1 mixed [] [] (by kernel_rfl) (fun K hK => ?_))
      | (with_reducible refine ev_nil (hK _ _ ?_); clear hK K)
      | (with_reducible refine ed_nil (hK _ _ ?_); clear hK K)
      | ((first | with_reducible refine ev_cons (fun K' hK' => ?_) | with_reducible refine ed_cons (fun K' hK' => ?_) | (with_reducible refine ev_id ?_; refine ev_guard rfl (fun K' hK' => ?_)) | (with_reducible refine ed_id ?_; refine ed_guard rfl (fun K' hK' => ?_))); simp; repeat' (first | (with_reducible refine hK' _ _ ?_; clear hK' K') | (with_reducible refine And.intro ?_ ?_) | (with_reducible intro hg) | (clear hK' K'; omega)))
      | (with_reducible refine w_cond (fun A B hA hB => ?_); simp; repeat' (first | (with_reducible refine hA ?_; clear hA hB A B) | (with_reducible refine hB ?_; clear hA hB A B) | (with_reducible refine And.intro ?_ ?_) | (with_reducible intro hc)))
      | (with_reducible refine awp_seq ?_))
    exact ⟨f, g, hi, by simp [ints_leftL, hcn, labI_length], (mf_sub d).upd d.hL none⟩
end Go.Am
