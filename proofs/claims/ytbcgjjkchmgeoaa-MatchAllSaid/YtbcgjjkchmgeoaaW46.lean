/- The laws of chapter 06: all may go with all, or none with any. -/
import Derived.Test.YtbcgjjkchmgeoaaW43
namespace Go.Am
open Go Go.Proofs
set_option linter.unusedVariables false
set_option linter.unusedSimpArgs false
variable {w0 : World}
attribute [local irreducible] AWP ACalls
attribute [local congr] acalls_congr

theorem nbM_rep {n : Nat} {l : List Int} {i : Int} (h0 : 0 ≤ i) (h : i < n) : nbM (List.replicate n l) i = l := by
  unfold nbM
  rw [List.getD_eq_getElem?_getD, List.getElem?_replicate, if_pos (by omega)]
  rfl
theorem grm_rep {m n : Nat} {l : List Int} (hn : n ≤ 64) (hm : m ≤ 64) (h1 : IsSet l) (h2 : ∀ x ∈ l, 0 ≤ x ∧ x < m) : GrM m (List.replicate n l) :=
  ⟨by simpa using hn, hm, fun p hp => by rw [List.eq_of_mem_replicate hp]; exact h1, fun p hp => by rw [List.eq_of_mem_replicate hp]; exact h2⟩
theorem nu_full {m n v : Nat} (hn : n ≤ 64) (hm : m ≤ 64) (hv : IsNu m (List.replicate n (upto m)) v) : v = min n m := by
  have hG := grm_rep (n := n) hn hm (isSet_upto (n := m) (by omega)) (fun x hx => mem_upto.1 hx)
  have h1 := nu_le hv
  have h2 := nu_le_r hG hv
  rw [List.length_replicate] at h1
  obtain ⟨_, l, r, c, rfl⟩ := hv
  by_cases h : ∃ i : Int, 0 ≤ i ∧ i < n ∧ i ∉ l
  · obtain ⟨i, a, b, e⟩ := h
    have := nodup_le (upto m) r (nodup_upto m) fun x hx => c.cover i a (by simpa using b) e x (by rw [nbM_rep a b]; exact hx)
    rw [upto_length] at this
    omega
  · have := nodup_le (upto n) l (nodup_upto n) fun x hx => by
      obtain ⟨a, b⟩ := mem_upto.1 hx
      exact Classical.byContradiction fun e => h ⟨x, a, b, e⟩
    rw [upto_length] at this
    omega
theorem nu_none {m n v : Nat} (hv : IsNu m (List.replicate n []) v) : v = 0 := by
  obtain ⟨⟨f, hf, rfl⟩, _⟩ := hv
  unfold cntM
  rw [List.countP_eq_zero]
  intro x hx
  obtain ⟨a, b⟩ := mem_upto.1 hx
  have b' : x < n := by simpa using b
  intro hne
  have := hf.nb x a b (by simpa using hne)
  rw [nbM_rep a b'] at this
  cases this
theorem wks_none (n : Nat) : Wks (.sl (List.replicate n (.sc (.slice none 0 0))) n) (rows (List.replicate n [])) := by
  have e : rows (List.replicate n []) = .sl (List.replicate n (.sl [] 0)) n := by simp [rows, ints]
  rw [e]
  refine Wks.sl (by simp) fun j a b h1 h2 => ?_
  rw [List.getElem?_replicate] at h1 h2
  split at h1
  · rename_i h
    rw [if_pos h] at h2
    cases h1; cases h2
    exact ⟨Wks.nil, by simp⟩
  · cases h1

set_option maxRecDepth 8000 in
set_option maxHeartbeats 4000000 in
theorem matchAll_ret {n0 m0 : Int} : Ret Try.prog w0 16 [I n0, I m0] (B true) := by
  intro H
  refine w_enter Try.func16 rfl Try.ntmps16 (ts := [4]) rfl (by simp) (by kernel_rfl) ?_
  by_cases h1 : n0 < 0
  · repeat' (first
      | (with_reducible refine awp_skip ?_)
      | (with_reducible refine then_any ?_)
      | (with_reducible refine then_ret ?_)
      | (with_reducible refine then_exit ?_)
      | (with_reducible refine inBlock_normal ?_)
      | (with_reducible refine inBlock_ret ?_)
      | (with_reducible refine inBlock_hit ?_)
      | (with_reducible refine inBlock_miss (by decide) ?_)
      | (with_reducible refine awp_ret ?_)
      | (with_reducible refine awp_exit ?_)
      | (with_reducible refine post_ret ?_)
      | (with_reducible refine post_normal ?_)
      | (with_reducible refine awp_block ?_)
      | (with_reducible refine v_reg [] (fun K hK => ?_))
      | (with_reducible refine v_reg1 [] (fun K hK => ?_))
      | (with_reducible refine v_draw mixed [] [] (by kernel_rfl) (fun K hK => ?_))
      | (with_reducible refine v_draw1 mixed [] [] (by kernel_rfl) (fun K hK => ?_))
      | (with_reducible refine ev_nil (hK _ _ ?_); clear hK K)
      | (with_reducible refine ed_nil (hK _ _ ?_); clear hK K)
      | ((first | with_reducible refine ev_cons (fun K' hK' => ?_) | with_reducible refine ed_cons (fun K' hK' => ?_) | (with_reducible refine ev_id ?_; refine ev_guard rfl (fun K' hK' => ?_)) | (with_reducible refine ed_id ?_; refine ed_guard rfl (fun K' hK' => ?_))); simp [h1]; repeat' (first | (with_reducible refine hK' _ _ ?_; clear hK' K') | (with_reducible refine Ret.use fixed6_ret ?_; try simp [h1]) | (with_reducible refine And.intro ?_ ?_) | (with_reducible intro hg) | (clear hK' K'; omega)))
      | (with_reducible refine w_cond (fun A B hA hB => ?_); simp [h1]; repeat' (first | (with_reducible refine hA ?_; clear hA hB A B) | (with_reducible refine hB ?_; clear hA hB A B) | (with_reducible refine And.intro ?_ ?_) | (with_reducible intro hc)))
      | (with_reducible refine awp_seq ?_))
    all_goals simp
  by_cases h2 : 20 < n0
  · repeat' (first
      | (with_reducible refine awp_skip ?_)
      | (with_reducible refine then_any ?_)
      | (with_reducible refine then_ret ?_)
      | (with_reducible refine then_exit ?_)
      | (with_reducible refine inBlock_normal ?_)
      | (with_reducible refine inBlock_ret ?_)
      | (with_reducible refine inBlock_hit ?_)
      | (with_reducible refine inBlock_miss (by decide) ?_)
      | (with_reducible refine awp_ret ?_)
      | (with_reducible refine awp_exit ?_)
      | (with_reducible refine post_ret ?_)
      | (with_reducible refine post_normal ?_)
      | (with_reducible refine awp_block ?_)
      | (with_reducible refine v_reg [] (fun K hK => ?_))
      | (with_reducible refine v_reg1 [] (fun K hK => ?_))
      | (with_reducible refine v_draw mixed [] [] (by kernel_rfl) (fun K hK => ?_))
      | (with_reducible refine v_draw1 mixed [] [] (by kernel_rfl) (fun K hK => ?_))
      | (with_reducible refine ev_nil (hK _ _ ?_); clear hK K)
      | (with_reducible refine ed_nil (hK _ _ ?_); clear hK K)
      | ((first | with_reducible refine ev_cons (fun K' hK' => ?_) | with_reducible refine ed_cons (fun K' hK' => ?_) | (with_reducible refine ev_id ?_; refine ev_guard rfl (fun K' hK' => ?_)) | (with_reducible refine ed_id ?_; refine ed_guard rfl (fun K' hK' => ?_))); simp [h1, h2]; repeat' (first | (with_reducible refine hK' _ _ ?_; clear hK' K') | (with_reducible refine Ret.use fixed6_ret ?_; try simp [h1, h2]) | (with_reducible refine And.intro ?_ ?_) | (with_reducible intro hg) | (clear hK' K'; omega)))
      | (with_reducible refine w_cond (fun A B hA hB => ?_); simp [h1, h2]; repeat' (first | (with_reducible refine hA ?_; clear hA hB A B) | (with_reducible refine hB ?_; clear hA hB A B) | (with_reducible refine And.intro ?_ ?_) | (with_reducible intro hc)))
      | (with_reducible refine awp_seq ?_))
    all_goals simp
  by_cases h3 : m0 < 0
  · repeat' (first
      | (with_reducible refine awp_skip ?_)
      | (with_reducible refine then_any ?_)
      | (with_reducible refine then_ret ?_)
      | (with_reducible refine then_exit ?_)
      | (with_reducible refine inBlock_normal ?_)
      | (with_reducible refine inBlock_ret ?_)
      | (with_reducible refine inBlock_hit ?_)
      | (with_reducible refine inBlock_miss (by decide) ?_)
      | (with_reducible refine awp_ret ?_)
      | (with_reducible refine awp_exit ?_)
      | (with_reducible refine post_ret ?_)
      | (with_reducible refine post_normal ?_)
      | (with_reducible refine awp_block ?_)
      | (with_reducible refine v_reg [] (fun K hK => ?_))
      | (with_reducible refine v_reg1 [] (fun K hK => ?_))
      | (with_reducible refine v_draw mixed [] [] (by kernel_rfl) (fun K hK => ?_))
      | (with_reducible refine v_draw1 mixed [] [] (by kernel_rfl) (fun K hK => ?_))
      | (with_reducible refine ev_nil (hK _ _ ?_); clear hK K)
      | (with_reducible refine ed_nil (hK _ _ ?_); clear hK K)
      | ((first | with_reducible refine ev_cons (fun K' hK' => ?_) | with_reducible refine ed_cons (fun K' hK' => ?_) | (with_reducible refine ev_id ?_; refine ev_guard rfl (fun K' hK' => ?_)) | (with_reducible refine ed_id ?_; refine ed_guard rfl (fun K' hK' => ?_))); simp [h1, h2, h3]; repeat' (first | (with_reducible refine hK' _ _ ?_; clear hK' K') | (with_reducible refine Ret.use fixed6_ret ?_; try simp [h1, h2, h3]) | (with_reducible refine And.intro ?_ ?_) | (with_reducible intro hg) | (clear hK' K'; omega)))
      | (with_reducible refine w_cond (fun A B hA hB => ?_); simp [h1, h2, h3]; repeat' (first | (with_reducible refine hA ?_; clear hA hB A B) | (with_reducible refine hB ?_; clear hA hB A B) | (with_reducible refine And.intro ?_ ?_) | (with_reducible intro hc)))
      | (with_reducible refine awp_seq ?_))
    all_goals simp
  by_cases h4 : 20 < m0
  · repeat' (first
      | (with_reducible refine awp_skip ?_)
      | (with_reducible refine then_any ?_)
      | (with_reducible refine then_ret ?_)
      | (with_reducible refine then_exit ?_)
      | (with_reducible refine inBlock_normal ?_)
      | (with_reducible refine inBlock_ret ?_)
      | (with_reducible refine inBlock_hit ?_)
      | (with_reducible refine inBlock_miss (by decide) ?_)
      | (with_reducible refine awp_ret ?_)
      | (with_reducible refine awp_exit ?_)
      | (with_reducible refine post_ret ?_)
      | (with_reducible refine post_normal ?_)
      | (with_reducible refine awp_block ?_)
      | (with_reducible refine v_reg [] (fun K hK => ?_))
      | (with_reducible refine v_reg1 [] (fun K hK => ?_))
      | (with_reducible refine v_draw mixed [] [] (by kernel_rfl) (fun K hK => ?_))
      | (with_reducible refine v_draw1 mixed [] [] (by kernel_rfl) (fun K hK => ?_))
      | (with_reducible refine ev_nil (hK _ _ ?_); clear hK K)
      | (with_reducible refine ed_nil (hK _ _ ?_); clear hK K)
      | ((first | with_reducible refine ev_cons (fun K' hK' => ?_) | with_reducible refine ed_cons (fun K' hK' => ?_) | (with_reducible refine ev_id ?_; refine ev_guard rfl (fun K' hK' => ?_)) | (with_reducible refine ed_id ?_; refine ed_guard rfl (fun K' hK' => ?_))); simp [h1, h2, h3, h4]; repeat' (first | (with_reducible refine hK' _ _ ?_; clear hK' K') | (with_reducible refine Ret.use fixed6_ret ?_; try simp [h1, h2, h3, h4]) | (with_reducible refine And.intro ?_ ?_) | (with_reducible intro hg) | (clear hK' K'; omega)))
      | (with_reducible refine w_cond (fun A B hA hB => ?_); simp [h1, h2, h3, h4]; repeat' (first | (with_reducible refine hA ?_; clear hA hB A B) | (with_reducible refine hB ?_; clear hA hB A B) | (with_reducible refine And.intro ?_ ?_) | (with_reducible intro hc)))
      | (with_reducible refine awp_seq ?_))
    all_goals simp
  obtain ⟨n, rfl⟩ := Int.eq_ofNat_of_zero_le (show 0 ≤ n0 by omega)
  obtain ⟨m, rfl⟩ := Int.eq_ofNat_of_zero_le (show 0 ≤ m0 by omega)
  repeat' (first
    | (with_reducible refine awp_skip ?_)
    | (with_reducible refine then_any ?_)
    | (with_reducible refine then_ret ?_)
    | (with_reducible refine then_exit ?_)
    | (with_reducible refine inBlock_normal ?_)
    | (with_reducible refine inBlock_ret ?_)
    | (with_reducible refine inBlock_hit ?_)
    | (with_reducible refine inBlock_miss (by decide) ?_)
    | (with_reducible refine awp_ret ?_)
    | (with_reducible refine awp_exit ?_)
    | (with_reducible refine post_ret ?_)
    | (with_reducible refine post_normal ?_)
    | (with_reducible refine awp_block ?_)
    | (with_reducible refine v_reg [35, 36, 37] (fun K hK => ?_))
    | (with_reducible refine v_reg1 [35, 36, 37] (fun K hK => ?_))
    | (with_reducible refine v_draw mixed [35, 36, 37] [] (by kernel_rfl) (fun K hK => ?_))
    | (with_reducible refine v_draw1 mixed [35, 36, 37] [] (by kernel_rfl) (fun K hK => ?_))
    | (with_reducible refine ev_nil (hK _ _ ?_); clear hK K)
    | (with_reducible refine ed_nil (hK _ _ ?_); clear hK K)
    | ((first | with_reducible refine ev_cons (fun K' hK' => ?_) | with_reducible refine ed_cons (fun K' hK' => ?_) | (with_reducible refine ev_id ?_; refine ev_guard rfl (fun K' hK' => ?_)) | (with_reducible refine ed_id ?_; refine ed_guard rfl (fun K' hK' => ?_))); simp [h1, h2, h3, h4]; repeat' (first | (with_reducible refine hK' _ _ ?_; clear hK' K') | (with_reducible refine Ret.use fixed6_ret ?_; try simp [h1, h2, h3, h4]) | (with_reducible refine And.intro ?_ ?_) | (with_reducible intro hg) | (clear hK' K'; omega)))
    | (with_reducible refine w_cond (fun A B hA hB => ?_); simp [h1, h2, h3, h4]; repeat' (first | (with_reducible refine hA ?_; clear hA hB A B) | (with_reducible refine hB ?_; clear hA hB A B) | (with_reducible refine And.intro ?_ ?_) | (with_reducible intro hc)))
    | (with_reducible refine awp_seq ?_))
  rename_i A hA N hN C
  have hNA : N ≠ A := by rintro rfl; simp at hN
  have hN0 : H N = none := by rw [if_neg hNA] at hN; exact hN
  have hCN : C ≠ N := by rintro rfl; simp at hg
  have hCA : C ≠ A := by rintro rfl; simp [hCN] at hg
  have hC0 : H C = none := by rw [if_neg hCN, if_neg hCA] at hg; exact hg
  clear hg hN
  have hC1 : ∀ a b : Option Blk, upd (upd H A a) N b C = none := fun a b => by rw [upd_ne _ _ _ hCN, upd_ne _ _ _ hCA, hC0]
  refine awp_loop (fun env h => ∃ k : Nat, k ≤ m ∧ env 8 = I k ∧ env 7 = .ref C 0 k k ∧ env 0 = I n ∧ env 1 = I m ∧ env 5 = .ref A 0 0 0 ∧ env 6 = .ref N 0 0 0 ∧ h = upd (upd (upd H A (some (.arr 1 24 [] 0))) N (some (.arr 1 24 [] 0))) C (some (.arr 1 3 ((upto k).map I) k))) (fun env _ => m - natA (env 8)) ?_ ?_
  · exact ⟨0, by omega, by simp, by simp, by simp, by simp, by simp, by simp, by simp [upto]⟩
  rintro env h ⟨k, hk, h8, h7, h0, h1', h5, h6, rfl⟩
  have hnat : natA (env 8) = k := by simp [h8]
  rw [hnat]; clear hnat
  by_cases hlt : k < m
  · have hup : (upto (k + 1)).map I = (upto k).map I ++ [I (k : Int)] := by simp [upto, List.range_succ]
    have hul : ((upto k).map I).length = k := by simp
    generalize (upto k).map I = cells at *
    repeat' (first
      | (with_reducible refine awp_skip ?_)
      | (with_reducible refine then_any ?_)
      | (with_reducible refine then_ret ?_)
      | (with_reducible refine then_exit ?_)
      | (with_reducible refine inBlock_normal ?_)
      | (with_reducible refine inBlock_ret ?_)
      | (with_reducible refine inBlock_hit ?_)
      | (with_reducible refine inBlock_miss (by decide) ?_)
      | (with_reducible refine awp_ret ?_)
      | (with_reducible refine awp_exit ?_)
      | (with_reducible refine post_ret ?_)
      | (with_reducible refine post_normal ?_)
      | (with_reducible refine awp_block ?_)
      | (with_reducible refine v_reg [] (fun K hK => ?_))
      | (with_reducible refine v_reg1 [] (fun K hK => ?_))
      | (with_reducible refine v_draw mixed [] [] (by kernel_rfl) (fun K hK => ?_))
      | (with_reducible refine v_draw1 mixed [] [] (by kernel_rfl) (fun K hK => ?_))
      | (with_reducible refine ev_nil (hK _ _ ?_); clear hK K)
      | (with_reducible refine ed_nil (hK _ _ ?_); clear hK K)
      | ((first | with_reducible refine ev_cons (fun K' hK' => ?_) | with_reducible refine ed_cons (fun K' hK' => ?_) | (with_reducible refine ev_id ?_; refine ev_guard rfl (fun K' hK' => ?_)) | (with_reducible refine ed_id ?_; refine ed_guard rfl (fun K' hK' => ?_))); simp [h8, h7, h0, h1', h5, h6, hlt, hul]; repeat' (first | (with_reducible refine hK' _ _ ?_; clear hK' K') | (with_reducible refine And.intro ?_ ?_) | (with_reducible intro hg) | (clear hK' K'; omega)))
      | (with_reducible refine w_cond (fun A B hA hB => ?_); simp [h8, h7, h0, h1', h5, h6, hlt, hul]; repeat' (first | (with_reducible refine hA ?_; clear hA hB A B) | (with_reducible refine hB ?_; clear hA hB A B) | (with_reducible refine And.intro ?_ ?_) | (with_reducible intro hc)))
      | (with_reducible refine awp_seq ?_))
    all_goals try omega
    exact ⟨⟨k + 1, by omega, by simp, by simp, by simp [h0], by simp [h1'], by simp [h5], by simp [h6], by rw [hup]⟩, by simp; omega⟩
  have hkm : k = m := by omega
  subst hkm
  refine awp_frz 7 h7 (hC1 _ _) fun env' he' he2 => ?_
  rw [cut_all (by simp)] at he'
  have g7 : env' 7 = ints (upto k) := by rw [he']; simp [ints]
  have g8 : env' 8 = I k := by rw [he2 _ (by decide), h8]
  have g0 : env' 0 = I n := by rw [he2 _ (by decide), h0]
  have g1 : env' 1 = I k := by rw [he2 _ (by decide), h1']
  have g5 : env' 5 = .ref A 0 0 0 := by rw [he2 _ (by decide), h5]
  have g6 : env' 6 = .ref N 0 0 0 := by rw [he2 _ (by decide), h6]
  clear he2 he' h8 h7 h0 h1' h5 h6 hC1
  repeat' (first
    | (with_reducible refine awp_skip ?_)
    | (with_reducible refine then_any ?_)
    | (with_reducible refine then_ret ?_)
    | (with_reducible refine then_exit ?_)
    | (with_reducible refine inBlock_normal ?_)
    | (with_reducible refine inBlock_ret ?_)
    | (with_reducible refine inBlock_hit ?_)
    | (with_reducible refine inBlock_miss (by decide) ?_)
    | (with_reducible refine awp_ret ?_)
    | (with_reducible refine awp_exit ?_)
    | (with_reducible refine post_ret ?_)
    | (with_reducible refine post_normal ?_)
    | (with_reducible refine awp_block ?_)
    | (with_reducible refine v_reg [] (fun K hK => ?_))
    | (with_reducible refine v_reg1 [] (fun K hK => ?_))
    | (with_reducible refine v_draw mixed [] [] (by kernel_rfl) (fun K hK => ?_))
    | (with_reducible refine v_draw1 mixed [] [] (by kernel_rfl) (fun K hK => ?_))
    | (with_reducible refine ev_nil (hK _ _ ?_); clear hK K)
    | (with_reducible refine ed_nil (hK _ _ ?_); clear hK K)
    | ((first | with_reducible refine ev_cons (fun K' hK' => ?_) | with_reducible refine ed_cons (fun K' hK' => ?_) | (with_reducible refine ev_id ?_; refine ev_guard rfl (fun K' hK' => ?_)) | (with_reducible refine ed_id ?_; refine ed_guard rfl (fun K' hK' => ?_))); simp [g7, g8, g0, g1, g5, g6]; repeat' (first | (with_reducible refine hK' _ _ ?_; clear hK' K') | (with_reducible refine And.intro ?_ ?_) | (with_reducible intro hg) | (clear hK' K'; omega)))
    | (with_reducible refine w_cond (fun A B hA hB => ?_); simp [g7, g8, g0, g1, g5, g6]; repeat' (first | (with_reducible refine hA ?_; clear hA hB A B) | (with_reducible refine hB ?_; clear hA hB A B) | (with_reducible refine And.intro ?_ ?_) | (with_reducible intro hc)))
    | (with_reducible refine awp_seq ?_))
  refine awp_loop (fun env h => ∃ q : Nat, q ≤ n ∧ env 9 = I q ∧ env 7 = ints (upto k) ∧ env 0 = I n ∧ env 1 = I k ∧ env 5 = .ref A 0 q q ∧ env 6 = .ref N 0 q q ∧
      h = upd (upd H A (some (.arr 1 24 (List.replicate q (ints (upto k))) q))) N (some (.arr 1 24 (List.replicate q (.sc (.slice none 0 0))) q))) (fun env _ => n - natA (env 9)) ?_ ?_
  · exact ⟨0, by omega, by simp, by simp [g7], by simp [g0], by simp [g1], by simp [g5], by simp [g6], by simp⟩
  clear g7 g8 g0 g1 g5 g6
  rintro env h ⟨q, hq, h9, h7, h0, h1', h5, h6, rfl⟩
  have hnat : natA (env 9) = q := by simp [h9]
  rw [hnat]; clear hnat
  have hAN : A ≠ N := Ne.symm hNA
  by_cases hlt : q < n
  · have r1 : List.replicate (q + 1) (ints (upto k)) = List.replicate q (ints (upto k)) ++ [ints (upto k)] := List.replicate_succ'
    have r2 : List.replicate (q + 1) (AV.sc (.slice none 0 0)) = List.replicate q (AV.sc (.slice none 0 0)) ++ [AV.sc (.slice none 0 0)] := List.replicate_succ'
    have l1 : (List.replicate q (ints (upto k))).length = q := by simp
    have l2 : (List.replicate q (AV.sc (.slice none 0 0))).length = q := by simp
    generalize List.replicate q (ints (upto k)) = ca at *
    generalize List.replicate q (AV.sc (.slice none 0 0)) = cn at *
    have u1 : ∀ a b c : Option Blk, upd (upd (upd H A a) N b) A c = upd (upd H A c) N b := fun a b c => by rw [upd_comm _ _ _ hNA, upd_upd]
    repeat' (first
      | (with_reducible refine awp_skip ?_)
      | (with_reducible refine then_any ?_)
      | (with_reducible refine then_ret ?_)
      | (with_reducible refine then_exit ?_)
      | (with_reducible refine inBlock_normal ?_)
      | (with_reducible refine inBlock_ret ?_)
      | (with_reducible refine inBlock_hit ?_)
      | (with_reducible refine inBlock_miss (by decide) ?_)
      | (with_reducible refine awp_ret ?_)
      | (with_reducible refine awp_exit ?_)
      | (with_reducible refine post_ret ?_)
      | (with_reducible refine post_normal ?_)
      | (with_reducible refine awp_block ?_)
      | (with_reducible refine v_reg [] (fun K hK => ?_))
      | (with_reducible refine v_reg1 [] (fun K hK => ?_))
      | (with_reducible refine v_draw mixed [] [] (by kernel_rfl) (fun K hK => ?_))
      | (with_reducible refine v_draw1 mixed [] [] (by kernel_rfl) (fun K hK => ?_))
      | (with_reducible refine ev_nil (hK _ _ ?_); clear hK K)
      | (with_reducible refine ed_nil (hK _ _ ?_); clear hK K)
      | ((first | with_reducible refine ev_cons (fun K' hK' => ?_) | with_reducible refine ed_cons (fun K' hK' => ?_) | (with_reducible refine ev_id ?_; refine ev_guard rfl (fun K' hK' => ?_)) | (with_reducible refine ed_id ?_; refine ed_guard rfl (fun K' hK' => ?_))); simp [h9, h7, h0, h1', h5, h6, hlt, l1, l2, hAN, u1, ints]; repeat' (first | (with_reducible refine hK' _ _ ?_; clear hK' K') | (with_reducible refine And.intro ?_ ?_) | (with_reducible intro hg) | (clear hK' K'; omega)))
      | (with_reducible refine w_cond (fun A B hA hB => ?_); simp [h9, h7, h0, h1', h5, h6, hlt, l1, l2, hAN, u1, ints]; repeat' (first | (with_reducible refine hA ?_; clear hA hB A B) | (with_reducible refine hB ?_; clear hA hB A B) | (with_reducible refine And.intro ?_ ?_) | (with_reducible intro hc)))
      | (with_reducible refine awp_seq ?_))
    all_goals try omega
    exact ⟨⟨q + 1, by omega, by simp, by simp [h7], by simp [h0], by simp [h1'], by simp, by simp, by rw [r1, r2]; simp [ints]⟩, by simp; omega⟩
  have hqn : q = n := by omega
  subst hqn
  refine awp_frz 6 h6 (by rw [upd_ne _ _ _ hNA]; exact hN0) fun env1 he1 he2 => ?_
  refine awp_frz 5 (by rw [he2 _ (by decide)]; exact h5) hA fun env2 he3 he4 => ?_
  rw [cut_all (by simp)] at he1 he3
  refine awp_wks 6 (b := rows (List.replicate q [])) (by rw [he4 _ (by decide), he1]; exact wks_none q) fun env3 he5 he6 => ?_
  have g5 : env3 5 = rows (List.replicate q (upto k)) := by rw [he6 _ (by decide), he3]; simp [rows]
  have g0 : env3 0 = I q := by rw [he6 _ (by decide), he4 _ (by decide), he2 _ (by decide), h0]
  have g1 : env3 1 = I k := by rw [he6 _ (by decide), he4 _ (by decide), he2 _ (by decide), h1']
  have g9 : env3 9 = I q := by rw [he6 _ (by decide), he4 _ (by decide), he2 _ (by decide), h9]
  clear he1 he2 he3 he4 he6
  have gF := grm_rep (n := q) (m := k) (by omega) (by omega) (isSet_upto (n := k) (by omega)) (fun x hx => mem_upto.1 hx)
  have gN := grm_rep (n := q) (m := k) (l := []) (by omega) (by omega) .nil (by simp)
  have hf1 := fun v hv => nu_full (m := k) (n := q) (v := v) (by omega) (by omega) hv
  have hf2 := fun v hv => nu_none (m := k) (n := q) (v := v) hv
  have oF : okLen (List.replicate q (upto k)) := by simp; omega
  have pF : ∀ l ∈ List.replicate q (upto k), okLen l := fun l hl => by rw [List.eq_of_mem_replicate hl]; simp; omega
  have oN : okLen (List.replicate q ([] : List Int)) := by simp; omega
  have pN : ∀ l ∈ List.replicate q ([] : List Int), okLen l := fun l hl => by rw [List.eq_of_mem_replicate hl]; simp
  have hlF : (List.replicate q (upto k)).length = q := by simp
  generalize List.replicate q (upto k) = F at *
  generalize List.replicate q ([] : List Int) = E at *
  have m1 : ∀ H K, (∀ f v, Mtc F f → cntM F.length f = v → IsNu k F v → K (.tup [ints (leftL F.length f), I v]) H) → ACalls Try.prog w0 50 [I k, rows F] H K := fun H K kk => max_use oF pF gF (fun f g hi => kk f _ hi.good.mtc rfl (hi.nu gF))
  have m2 : ∀ H K, (∀ f v, IsNu k E v → K (.tup [ints (leftL E.length f), I v]) H) → ACalls Try.prog w0 50 [I k, rows E] H K := fun H K kk => max_use oN pN gN (fun f g hi => kk f _ (hi.nu gN))
  have m3 : ∀ H K, (∀ l r v, l.length + r.length = v → IsNu k E v → K (.tup [ints l, ints r]) H) → ACalls Try.prog w0 51 [I k, rows E] H K := fun H K kk => cover_use oN pN gN (fun f g l r hi hc he => kk l r _ he (hi.nu gN))
  repeat' (first
    | (with_reducible refine awp_skip ?_)
    | (with_reducible refine then_any ?_)
    | (with_reducible refine then_ret ?_)
    | (with_reducible refine then_exit ?_)
    | (with_reducible refine inBlock_normal ?_)
    | (with_reducible refine inBlock_ret ?_)
    | (with_reducible refine inBlock_hit ?_)
    | (with_reducible refine inBlock_miss (by decide) ?_)
    | (with_reducible refine awp_ret ?_)
    | (with_reducible refine awp_exit ?_)
    | (with_reducible refine post_ret ?_)
    | (with_reducible refine post_normal ?_)
    | (with_reducible refine awp_block ?_)
    | ((fail_if_success (with_reducible refine at_reg 16 ?_)); with_reducible refine v_reg [] (fun K hK => ?_))
    | (with_reducible refine v_reg1 [] (fun K hK => ?_))
    | ((fail_if_success (with_reducible refine at_reg 16 ?_)); with_reducible refine v_draw mixed [] [] (by kernel_rfl) (fun K hK => ?_))
    | (with_reducible refine v_draw1 mixed [] [] (by kernel_rfl) (fun K hK => ?_))
    | (with_reducible refine ev_nil (hK _ _ ?_); clear hK K)
    | (with_reducible refine ed_nil (hK _ _ ?_); clear hK K)
    | ((first | with_reducible refine ev_cons (fun K' hK' => ?_) | with_reducible refine ed_cons (fun K' hK' => ?_) | (with_reducible refine ev_id ?_; refine ev_guard rfl (fun K' hK' => ?_)) | (with_reducible refine ed_id ?_; refine ed_guard rfl (fun K' hK' => ?_))); simp [g5, he5, g0, g1, g9]; repeat' (first | (with_reducible refine hK' _ _ ?_; clear hK' K') | ((with_reducible refine m1 _ _ (fun f v hf hfv hv => ?_)); try simp [g5, he5, g0, g1, g9]) | ((with_reducible refine m2 _ _ (fun f2 v2 hv2 => ?_)); try simp [g5, he5, g0, g1, g9]) | ((with_reducible refine m3 _ _ (fun l r v3 hlr hv3 => ?_)); try simp [g5, he5, g0, g1, g9]) | (with_reducible refine And.intro ?_ ?_) | (with_reducible intro hg) | (clear hK' K'; omega)))
    | (with_reducible refine w_cond (fun A B hA hB => ?_); simp [g5, he5, g0, g1, g9]; repeat' (first | (with_reducible refine hA ?_; clear hA hB A B) | (with_reducible refine hB ?_; clear hA hB A B) | (with_reducible refine And.intro ?_ ?_) | (with_reducible intro hc)))
    | ((fail_if_success (with_reducible refine at_reg 16 ?_)); with_reducible refine awp_seq ?_))
  have e1 := hf1 v hv
  have e2 := hf2 v2 hv2
  have e3 := hf2 v3 hv3
  have n1 := matches_ret (w0 := w0) (right := k) oF pF gF hf
  rw [hfv] at n1
  have e1' : (v : Int) = min (q : Int) k := by omega
  have hlr' : (l.length : Int) + r.length = 0 := by omega
  generalize leftL F.length f = lf at *
  simp only [ints] at n1
  subst e2
  rw [e1'] at n1
  repeat' (first
    | (with_reducible refine awp_skip ?_)
    | (with_reducible refine then_any ?_)
    | (with_reducible refine then_ret ?_)
    | (with_reducible refine then_exit ?_)
    | (with_reducible refine inBlock_normal ?_)
    | (with_reducible refine inBlock_ret ?_)
    | (with_reducible refine inBlock_hit ?_)
    | (with_reducible refine inBlock_miss (by decide) ?_)
    | (with_reducible refine awp_ret ?_)
    | (with_reducible refine awp_exit ?_)
    | (with_reducible refine post_ret ?_)
    | (with_reducible refine post_normal ?_)
    | (with_reducible refine awp_block ?_)
    | (with_reducible refine v_reg [] (fun K hK => ?_))
    | (with_reducible refine v_reg1 [] (fun K hK => ?_))
    | (with_reducible refine v_draw mixed [] [] (by kernel_rfl) (fun K hK => ?_))
    | (with_reducible refine v_draw1 mixed [] [] (by kernel_rfl) (fun K hK => ?_))
    | (with_reducible refine ev_nil (hK _ _ ?_); clear hK K)
    | (with_reducible refine ed_nil (hK _ _ ?_); clear hK K)
    | ((first | with_reducible refine ev_cons (fun K' hK' => ?_) | with_reducible refine ed_cons (fun K' hK' => ?_) | (with_reducible refine ev_id ?_; refine ev_guard rfl (fun K' hK' => ?_)) | (with_reducible refine ed_id ?_; refine ed_guard rfl (fun K' hK' => ?_))); simp [g5, he5, g0, g1, g9, ints, e1', hlr']; repeat' (first | (with_reducible refine hK' _ _ ?_; clear hK' K') | (with_reducible refine Ret.use n1 ?_; try simp [g5, he5, g0, g1, g9, ints, e1', hlr']) | (with_reducible refine And.intro ?_ ?_) | (with_reducible intro hg) | (clear hK' K'; omega)))
    | (with_reducible refine w_cond (fun A B hA hB => ?_); simp [g5, he5, g0, g1, g9, ints, e1', hlr']; repeat' (first | (with_reducible refine hA ?_; clear hA hB A B) | (with_reducible refine hB ?_; clear hA hB A B) | (with_reducible refine And.intro ?_ ?_) | (with_reducible intro hc)))
    | (with_reducible refine awp_seq ?_))
  all_goals simp
#print axioms matchAll_ret
end Go.Am
