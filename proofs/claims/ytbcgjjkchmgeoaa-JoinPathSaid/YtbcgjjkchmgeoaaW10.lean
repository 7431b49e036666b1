/- Contract: the law JoinPath. -/
import Derived.Test.YtbcgjjkchmgeoaaW9
namespace Go.Am
open Go Go.Proofs
set_option linter.unusedVariables false
set_option linter.unusedSimpArgs false
variable {w0 : World}
attribute [local irreducible] AWP ACalls
attribute [local congr] acalls_congr

/-- A path's edges. -/
def pathE (k : Nat) : List (Int × Int) := (List.range k).map fun i : Nat => ((i : Int), (i : Int) + 1)
theorem pathE_length (k : Nat) : (pathE k).length = k := by simp [pathE]
theorem pathE_succ (k : Nat) : pathE (k + 1) = pathE k ++ [((k : Int), (k : Int) + 1)] := by simp [pathE, List.range_succ]

theorem compJ_snoc (es : List (Int × Int)) (e : Int × Int) : compJ (es ++ [e]) = stepC (compJ es) e := by simp [compJ, List.foldl_append]

theorem compJ_path (k : Nat) : compJ (pathE k) = (fun w => if w ≤ k then 0 else w, k) := by
  induction k with
  | zero =>
    simp only [pathE, List.range_zero, List.map_nil, compJ, List.foldl_nil]
    congr 1
    funext w
    simp only [id]
    split <;> omega
  | succ k ih =>
    rw [pathE_succ, compJ_snoc, ih]
    simp only [stepC, Int.toNat_natCast]
    have h1 : ((k : Int) + 1).toNat = k + 1 := by omega
    rw [h1]
    have h2 : (if k ≤ k then 0 else k) = 0 := by simp
    have h3 : (if k + 1 ≤ k then 0 else k + 1) = k + 1 := by rw [if_neg (by omega)]
    rw [h2, h3]
    refine Prod.ext ?_ ?_
    · funext w
      simp only
      have hm : max 0 (k + 1) = k + 1 := by omega
      have hn : min 0 (k + 1) = 0 := by omega
      rw [hm, hn]
      split <;> split <;> split <;> omega
    · simp
theorem compJ_ring (k : Nat) : compJ (pathE k ++ [((k : Int), 0)]) = (fun w => if w ≤ k then 0 else w, k) := by
  rw [compJ_snoc, compJ_path]
  simp only [stepC, Int.toNat_natCast]
  refine Prod.ext ?_ ?_
  · funext w
    simp
    omega
  · simp

theorem valid_path {n : Nat} (h1 : 1 ≤ n) (h2 : n ≤ 64) : validG n (pathE (n - 1)) = true := by
  simp only [validG, Bool.and_eq_true, decide_eq_true_eq, pathE_length, List.all_eq_true]
  refine ⟨⟨⟨by omega, by omega⟩, by omega⟩, fun e he => ?_⟩
  simp only [pathE, List.mem_map, List.mem_range] at he
  obtain ⟨i, hi, rfl⟩ := he
  simp only [edgeOk, Bool.and_eq_true, decide_eq_true_eq]
  omega
theorem valid_ring {n : Nat} (h1 : 1 ≤ n) (h2 : n ≤ 64) : validG n (pathE (n - 1) ++ [(((n - 1 : Nat) : Int), 0)]) = true := by
  have := valid_path h1 h2
  simp only [validG, Bool.and_eq_true, decide_eq_true_eq, List.all_append, List.all_cons, List.all_nil, List.length_append, List.length_singleton, pathE_length] at this ⊢
  refine ⟨⟨⟨by omega, by omega⟩, by omega⟩, this.2, ?_⟩
  simp [edgeOk]
  omega

theorem parts_of_path {n : Nat} {c : Nat → Nat} (h1 : 1 ≤ n) (hc : c = fun w => if w ≤ n - 1 then 0 else w) : partsK c n = [upto n] := by
  subst hc
  have hr : rootsK (fun w => if w ≤ n - 1 then 0 else w) n = [0] := by
    have hf : ∀ w, w < n → ((if w ≤ n - 1 then 0 else w) = w ↔ w = 0) := by
      intro w hw
      rw [if_pos (by omega)]
      exact eq_comm
    obtain ⟨m, rfl⟩ : ∃ m, n = m + 1 := ⟨n - 1, by omega⟩
    simp only [rootsK]
    rw [List.range_succ_eq_map, List.filter_cons]
    simp
    intro a ha
    omega
  have hp : partK (fun w => if w ≤ n - 1 then 0 else w) n 0 = upto n := by
    simp only [partK, upto]
    rw [List.filter_eq_self.2]
    · rfl
    · intro w hw
      rw [List.mem_range] at hw
      simp only [decide_eq_true_eq]
      rw [if_pos (by omega)]
  simp [partsK, hr, hp]

set_option maxHeartbeats 1000000 in
theorem path_ret {n : Int} : Ret Try.prog w0 6 [I n] (B true) := by
  intro H
  refine w_enter Try.func6 rfl Try.ntmps6 (ts := [2]) rfl (by simp) (by kernel_rfl) ?_
  repeat' (first
    | (with_reducible refine awp_skip ?_)
    | (with_reducible refine then_any ?_)
    | (with_reducible refine then_ret ?_)
    | (with_reducible refine then_exit ?_)
    | (with_reducible refine inBlock_normal ?_)
    | (with_reducible refine inBlock_ret ?_)
    | (with_reducible refine inBlock_hit ?_)
    | (with_reducible refine inBlock_miss (by decide) ?_)
    | (with_reducible refine awp_ret ?_)
    | (with_reducible refine awp_exit ?_)
    | (with_reducible refine post_ret ?_)
    | (with_reducible refine post_normal ?_)
    | (with_reducible refine awp_block ?_)
    | (with_reducible refine v_reg [21] (fun K hK => ?_))
    | (with_reducible refine v_reg1 [21] (fun K hK => ?_))
    | (with_reducible refine v_draw mixed [21] [] (by kernel_rfl) (fun K hK => ?_))
    | (with_reducible refine v_draw1 mixed [21] [] (by kernel_rfl) (fun K hK => ?_))
    | (with_reducible refine ev_nil (hK _ _ ?_); clear hK K)
    | (with_reducible refine ed_nil (hK _ _ ?_); clear hK K)
    | ((first | with_reducible refine ev_cons (fun K' hK' => ?_) | with_reducible refine ed_cons (fun K' hK' => ?_) | (with_reducible refine ev_id ?_; refine ev_guard rfl (fun K' hK' => ?_)) | (with_reducible refine ed_id ?_; refine ed_guard rfl (fun K' hK' => ?_))); simp; repeat' (first | (with_reducible refine hK' _ _ ?_; clear hK' K') | (with_reducible refine Ret.use fixed3_ret ?_; try simp) | (with_reducible refine And.intro ?_ ?_) | (with_reducible intro hg) | (clear hK' K'; omega)))
    | (with_reducible refine w_cond (fun A B hA hB => ?_); simp; repeat' (first | (with_reducible refine hA ?_; clear hA hB A B) | (with_reducible refine hB ?_; clear hA hB A B) | (with_reducible refine And.intro ?_ ?_) | (with_reducible intro hc)))
    | (with_reducible refine awp_seq ?_))
  · simp
  · rename_i hn1 r
    have hr : H r = none := hg
    clear hg
    obtain ⟨m, rfl⟩ := Int.eq_ofNat_of_zero_le (show 0 ≤ n by omega)
    refine awp_loop (fun env h => ∃ (k : Nat), k + 1 ≤ m ∧ env 4 = I (k + 1 : Nat) ∧ env 0 = I m ∧ env 3 = .ref r 0 k k ∧ h = upd H r (some (.arr 2 37 ((pathE k).flatMap fun e => [I e.1, I e.2]) k))) (fun env _ => m - natA (env 4)) ?_ ?_
    · exact ⟨0, by omega, by simp, by simp, by simp, by simp [pathE]⟩
    rintro env h ⟨k, hk, h4, h0, h3, rfl⟩
    have hnat : natA (env 4) = k + 1 := by simp [h4]
    rw [hnat]; clear hnat
    by_cases hlt : k + 1 < m
    · have hlt' : (k : Int) + 1 < m := by omega
      repeat' (first
        | (with_reducible refine awp_skip ?_)
        | (with_reducible refine then_any ?_)
        | (with_reducible refine then_ret ?_)
        | (with_reducible refine then_exit ?_)
        | (with_reducible refine inBlock_normal ?_)
        | (with_reducible refine inBlock_ret ?_)
        | (with_reducible refine inBlock_hit ?_)
        | (with_reducible refine inBlock_miss (by decide) ?_)
        | (with_reducible refine awp_ret ?_)
        | (with_reducible refine awp_exit ?_)
        | (with_reducible refine post_ret ?_)
        | (with_reducible refine post_normal ?_)
        | (with_reducible refine awp_block ?_)
        | (with_reducible refine v_reg [] (fun K hK => ?_))
        | (with_reducible refine v_reg1 [] (fun K hK => ?_))
        | (with_reducible refine v_draw mixed [] [] (by kernel_rfl) (fun K hK => ?_))
        | (with_reducible refine v_draw1 mixed [] [] (by kernel_rfl) (fun K hK => ?_))
        | (with_reducible refine ev_nil (hK _ _ ?_); clear hK K)
        | (with_reducible refine ed_nil (hK _ _ ?_); clear hK K)
        | ((first | with_reducible refine ev_cons (fun K' hK' => ?_) | with_reducible refine ed_cons (fun K' hK' => ?_) | (with_reducible refine ev_id ?_; refine ev_guard rfl (fun K' hK' => ?_)) | (with_reducible refine ed_id ?_; refine ed_guard rfl (fun K' hK' => ?_))); simp [h4, h0, h3, hlt, hlt']; repeat' (first | (with_reducible refine hK' _ _ ?_; clear hK' K') | (with_reducible refine And.intro ?_ ?_) | (with_reducible intro hg) | (clear hK' K'; omega)))
        | (with_reducible refine w_cond (fun A B hA hB => ?_); simp [h4, h0, h3, hlt, hlt']; repeat' (first | (with_reducible refine hA ?_; clear hA hB A B) | (with_reducible refine hB ?_; clear hA hB A B) | (with_reducible refine And.intro ?_ ?_) | (with_reducible intro hc)))
        | (with_reducible refine awp_seq ?_))
      exact ⟨⟨k + 1, by omega, by simp, by simp [h0], by simp, by rw [pathE_succ]; simp⟩, by simp; omega⟩
    · have : m = k + 1 := by omega
      subst this
      refine awp_frz 3 h3 hr fun env' he he' => ?_
      rw [cut_pairs _ (pathE_length k).symm] at he
      have h0' : env' 0 = I ((k : Int) + 1) := by rw [he' _ (by decide), h0]; simp
      have h4' : env' 4 = I ((k : Int) + 1) := by rw [he' _ (by decide), h4]; simp
      have hv := valid_path (n := k + 1) (by omega) (by omega)
      have hv2 := valid_ring (n := k + 1) (by omega) (by omega)
      rw [Nat.add_sub_cancel] at hv hv2
      have hpl : (pathE k).length = k := pathE_length k
      have hpo : okLen (pathE k) := by rw [okLen, hpl]; omega
      have hp1 : partsL ((k : Int) + 1) (pathE k) = [upto (k + 1)] := by
        have : ((k : Int) + 1) = ((k + 1 : Nat) : Int) := by simp
        rw [this, partsL, if_pos hv, compJ_path, Int.toNat_natCast]
        exact parts_of_path (by omega) (by rfl)
      have hp2 : okE ((k : Int) + 1) (pathE k) = 0 := by
        have : ((k : Int) + 1) = ((k + 1 : Nat) : Int) := by simp
        rw [this, okE, if_pos hv]
      have htk : ((pathE k).flatMap fun e => [I e.1, I e.2]).take (k * 2) = (pathE k).flatMap fun e => [I e.1, I e.2] := by
        rw [List.take_of_length_le (by rw [pairs_len, hpl]; omega)]
      have hkl : ((pathE k).flatMap fun e => [I e.1, I e.2]).length = k * 2 := by rw [pairs_len, hpl]
      repeat' (first
        | (with_reducible refine awp_skip ?_)
        | (with_reducible refine then_any ?_)
        | (with_reducible refine then_ret ?_)
        | (with_reducible refine then_exit ?_)
        | (with_reducible refine inBlock_normal ?_)
        | (with_reducible refine inBlock_ret ?_)
        | (with_reducible refine inBlock_hit ?_)
        | (with_reducible refine inBlock_miss (by decide) ?_)
        | (with_reducible refine awp_ret ?_)
        | (with_reducible refine awp_exit ?_)
        | (with_reducible refine post_ret ?_)
        | (with_reducible refine post_normal ?_)
        | (with_reducible refine awp_block ?_)
        | ((fail_if_success (with_reducible refine at_reg 10 ?_)); with_reducible refine v_reg [40] (fun K hK => ?_))
        | (with_reducible refine v_reg1 [40] (fun K hK => ?_))
        | ((fail_if_success (with_reducible refine at_reg 10 ?_)); with_reducible refine v_draw mixed [40] [] (by kernel_rfl) (fun K hK => ?_))
        | (with_reducible refine v_draw1 mixed [40] [] (by kernel_rfl) (fun K hK => ?_))
        | (with_reducible refine ev_nil (hK _ _ ?_); clear hK K)
        | (with_reducible refine ed_nil (hK _ _ ?_); clear hK K)
        | ((first | with_reducible refine ev_cons (fun K' hK' => ?_) | with_reducible refine ed_cons (fun K' hK' => ?_) | (with_reducible refine ev_id ?_; refine ev_guard rfl (fun K' hK' => ?_)) | (with_reducible refine ed_id ?_; refine ed_guard rfl (fun K' hK' => ?_))); simp [he, h0', h4', hp1, hp2, hpl, htk, hkl]; repeat' (first | (with_reducible refine hK' _ _ ?_; clear hK' K') | (with_reducible refine Ret.use (parts_ret hpo) ?_; try simp [he, h0', h4', hp1, hp2, hpl, htk, hkl]) | (with_reducible refine And.intro ?_ ?_) | (with_reducible intro hg) | (clear hK' K'; omega)))
        | (with_reducible refine w_cond (fun A B hA hB => ?_); simp [he, h0', h4', hp1, hp2, hpl, htk, hkl]; repeat' (first | (with_reducible refine hA ?_; clear hA hB A B) | (with_reducible refine hB ?_; clear hA hB A B) | (with_reducible refine And.intro ?_ ?_) | (with_reducible intro hc)))
        | ((fail_if_success (with_reducible refine at_reg 10 ?_)); with_reducible refine awp_seq ?_))
      rename_i r2
      have hr2 : H r2 = none := hg
      clear hg
      have hkk : ((k : Int) + 1) = ((k + 1 : Nat) : Int) := by simp
      have hrl : (pathE k ++ [((k : Int), (0 : Int))]).length = k + 1 := by simp [hpl]
      have hro : okLen (pathE k ++ [((k : Int), (0 : Int))]) := by rw [okLen, hrl]; omega
      have hq1 : partsL ((k : Int) + 1) (pathE k ++ [((k : Int), 0)]) = [upto (k + 1)] := by
        rw [hkk, partsL, if_pos hv2, compJ_ring, Int.toNat_natCast]
        exact parts_of_path (by omega) (by rfl)
      have hq2 : okE ((k : Int) + 1) (pathE k ++ [((k : Int), 0)]) = 0 := by rw [hkk, okE, if_pos hv2]
      have hq3 : (if validG ((k : Int) + 1) (pathE k ++ [((k : Int), 0)]) then ((compJ (pathE k ++ [((k : Int), 0)])).2 : Int) else -1) = k := by rw [hkk, if_pos hv2, compJ_ring]
      have hq4 : (if validG ((k : Int) + 1) (pathE k) then ((compJ (pathE k)).2 : Int) else -1) = k := by rw [hkk, if_pos hv, compJ_path]
      refine awp_frz 7 (by simp) hr2 fun env2 he2 he2' => ?_
      have g0 : env2 0 = I ((k : Int) + 1) := by rw [he2' _ (by decide)]; simp [h0']
      have g3 : env2 3 = pairs (pathE k) := by rw [he2' _ (by decide)]; simp [he]
      have g5 : env2 5 = rows [upto (k + 1)] := by rw [he2' _ (by decide)]; simp
      have g6 : env2 6 = I 0 := by rw [he2' _ (by decide)]; simp
      have g7 : env2 7 = pairs (pathE k ++ [((k : Int), 0)]) := by
        rw [he2, ← cut_pairs _ hrl.symm]
        simp
      clear he2' he2 he he'
      generalize pathE k ++ [((k : Int), (0 : Int))] = ring at *
      generalize pathE k = path at *
      repeat' (first
        | (with_reducible refine awp_skip ?_)
        | (with_reducible refine then_any ?_)
        | (with_reducible refine then_ret ?_)
        | (with_reducible refine then_exit ?_)
        | (with_reducible refine inBlock_normal ?_)
        | (with_reducible refine inBlock_ret ?_)
        | (with_reducible refine inBlock_hit ?_)
        | (with_reducible refine inBlock_miss (by decide) ?_)
        | (with_reducible refine awp_ret ?_)
        | (with_reducible refine awp_exit ?_)
        | (with_reducible refine post_ret ?_)
        | (with_reducible refine post_normal ?_)
        | (with_reducible refine awp_block ?_)
        | (with_reducible refine v_reg [] (fun K hK => ?_))
        | (with_reducible refine v_reg1 [] (fun K hK => ?_))
        | (with_reducible refine v_draw mixed [] [] (by kernel_rfl) (fun K hK => ?_))
        | (with_reducible refine v_draw1 mixed [] [] (by kernel_rfl) (fun K hK => ?_))
        | (with_reducible refine ev_nil (hK _ _ ?_); clear hK K)
        | (with_reducible refine ed_nil (hK _ _ ?_); clear hK K)
        | ((first | with_reducible refine ev_cons (fun K' hK' => ?_) | with_reducible refine ed_cons (fun K' hK' => ?_) | (with_reducible refine ev_id ?_; refine ev_guard rfl (fun K' hK' => ?_)) | (with_reducible refine ed_id ?_; refine ed_guard rfl (fun K' hK' => ?_))); simp [g0, g3, g5, g6, g7, hq1, hq2, hq3, hq4, hrl, hpl, upto_length]; repeat' (first | (with_reducible refine hK' _ _ ?_; clear hK' K') | (with_reducible refine Ret.use (parts_ret hro) ?_; try simp [g0, g3, g5, g6, g7, hq1, hq2, hq3, hq4, hrl, hpl, upto_length]) | (with_reducible refine Ret.use (forestB_ret hpo) ?_; try simp [g0, g3, g5, g6, g7, hq1, hq2, hq3, hq4, hrl, hpl, upto_length]) | (with_reducible refine Ret.use (forestB_ret hro) ?_; try simp [g0, g3, g5, g6, g7, hq1, hq2, hq3, hq4, hrl, hpl, upto_length]) | (with_reducible refine Ret.use (rank_ret hro) ?_; try simp [g0, g3, g5, g6, g7, hq1, hq2, hq3, hq4, hrl, hpl, upto_length]) | (with_reducible refine And.intro ?_ ?_) | (with_reducible intro hg) | (clear hK' K'; omega)))
        | (with_reducible refine w_cond (fun A B hA hB => ?_); simp [g0, g3, g5, g6, g7, hq1, hq2, hq3, hq4, hrl, hpl, upto_length]; repeat' (first | (with_reducible refine hA ?_; clear hA hB A B) | (with_reducible refine hB ?_; clear hA hB A B) | (with_reducible refine And.intro ?_ ?_) | (with_reducible intro hc)))
        | (with_reducible refine awp_seq ?_))
      all_goals first | (exfalso; omega) | simp
  · simp

#print axioms path_ret
end Go.Am
