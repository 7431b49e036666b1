/- Contracts: the laws ReachTells, ReachJoins. -/
import Derived.Test.YtbcgjjkchmgeoaaM5
namespace Go.Am
open Go Go.Proofs
set_option linter.unusedVariables false
set_option linter.unusedSimpArgs false
variable {w0 : World}
attribute [local irreducible] AWP ACalls
attribute [local congr] acalls_congr

theorem fromL_len (adj : List (List Int)) (l : List Int) : (fromL adj l).length ≤ 4096 := by
  unfold fromL
  split
  · rename_i h
    rw [Bool.and_eq_true] at h
    have hG := gr_iff.1 h.1
    have := (lev_pts hG (pts_iff.1 h.2) adj.length).length
    have := hG.len
    omega
  · simp
theorem pathA_len (adj : List (List Int)) (fr to : List Int) : (pathA adj fr to).1.length ≤ 4097 := by
  unfold pathA
  split
  · rename_i h
    rw [Bool.and_eq_true, Bool.and_eq_true] at h
    have hG := gr_iff.1 h.1
    have ht := pts_iff.1 h.2.2
    rcases path_cases hG ht (pts_iff.1 h.2.1) with ⟨h1, _⟩ | ⟨v, k, hv, hd, h1, _⟩
    · rw [h1]; simp
    · rw [h1]
      have := dt_bound hG ht v
      have := hG.len
      simp only [way_length]
      omega
  · simp

theorem reachTells_ret {adj : List (List Int)} {fr to : List Int} (ha : adj.length ≤ 17592186044416) (hin : ∀ p ∈ adj, p.length ≤ 17592186044416) (hf0 : fr.length ≤ 17592186044416) (ht0 : to.length ≤ 17592186044416) :
    Ret Try.prog w0 8 [rows adj, ints fr, ints to] (B true) := by
  intro H
  have hoa : okLen adj := by omega
  have hoi : ∀ p ∈ adj, okLen p := fun p hp => by have := hin p hp; omega
  have hof : okLen fr := by omega
  have hot : okLen to := by omega
  have hfl : okLen (fromL adj fr) := by have := fromL_len adj fr; omega
  have hpl : okLen (pathA adj fr to).1 := by have := pathA_len adj fr to; omega
  refine w_enter Try.func8 rfl Try.ntmps8 (ts := [6]) rfl (by simp) (by kernel_rfl) ?_
  repeat' (first
    | (with_reducible refine awp_skip ?_)
    | (with_reducible refine then_any ?_)
    | (with_reducible refine then_ret ?_)
    | (with_reducible refine then_exit ?_)
    | (with_reducible refine inBlock_normal ?_)
    | (with_reducible refine inBlock_ret ?_)
    | (with_reducible refine inBlock_hit ?_)
    | (with_reducible refine inBlock_miss (by decide) ?_)
    | (with_reducible refine awp_ret ?_)
    | (with_reducible refine awp_exit ?_)
    | (with_reducible refine post_ret ?_)
    | (with_reducible refine post_normal ?_)
    | (with_reducible refine awp_block ?_)
    | (with_reducible refine v_reg [] (fun K hK => ?_))
    | (with_reducible refine v_reg1 [] (fun K hK => ?_))
    | (with_reducible refine v_draw mixed [] [] (by kernel_rfl) (fun K hK => ?_))
    | (with_reducible refine v_draw1 mixed [] [] (by kernel_rfl) (fun K hK => ?_))
    | (with_reducible refine ev_nil (hK _ _ ?_); clear hK K)
    | (with_reducible refine ed_nil (hK _ _ ?_); clear hK K)
    | ((first | with_reducible refine ev_cons (fun K' hK' => ?_) | with_reducible refine ed_cons (fun K' hK' => ?_) | (with_reducible refine ev_id ?_; refine ev_guard rfl (fun K' hK' => ?_)) | (with_reducible refine ed_id ?_; refine ed_guard rfl (fun K' hK' => ?_))); simp [rows, ints]; repeat' (first | (with_reducible refine hK' _ _ ?_; clear hK' K') | (with_reducible refine Ret.use fixed7_ret ?_; try simp [rows, ints]) | (with_reducible refine And.intro ?_ ?_) | (with_reducible intro hg) | (clear hK' K'; omega)))
    | (with_reducible refine w_cond (fun A B hA hB => ?_); simp [rows, ints]; repeat' (first | (with_reducible refine hA ?_; clear hA hB A B) | (with_reducible refine hB ?_; clear hA hB A B) | (with_reducible refine And.intro ?_ ?_) | (with_reducible intro hc)))
    | (with_reducible refine awp_seq ?_))
  all_goals try (simp; done)
  refine awp_loop (fun env h => ∃ k : Nat, k ≤ adj.length ∧ env 7 = I k ∧ env 0 = rows adj ∧ env 1 = ints fr ∧ env 2 = ints to ∧ h = H) (fun env _ => adj.length - natA (env 7)) ?_ ?_
  · exact ⟨0, by omega, by simp, by simp [rows], by simp [ints], by simp [ints], rfl⟩
  rintro env h ⟨k, hk, h7, h0, h1, h2, rfl⟩
  have hnat : natA (env 7) = k := by simp [h7]
  rw [hnat]; clear hnat
  by_cases hlt : k < adj.length
  · repeat' (first
      | (with_reducible refine awp_skip ?_)
      | (with_reducible refine then_any ?_)
      | (with_reducible refine then_ret ?_)
      | (with_reducible refine then_exit ?_)
      | (with_reducible refine inBlock_normal ?_)
      | (with_reducible refine inBlock_ret ?_)
      | (with_reducible refine inBlock_hit ?_)
      | (with_reducible refine inBlock_miss (by decide) ?_)
      | (with_reducible refine awp_ret ?_)
      | (with_reducible refine awp_exit ?_)
      | (with_reducible refine post_ret ?_)
      | (with_reducible refine post_normal ?_)
      | (with_reducible refine awp_block ?_)
      | (with_reducible refine v_reg [] (fun K hK => ?_))
      | (with_reducible refine v_reg1 [] (fun K hK => ?_))
      | (with_reducible refine v_draw mixed [] [] (by kernel_rfl) (fun K hK => ?_))
      | (with_reducible refine v_draw1 mixed [] [] (by kernel_rfl) (fun K hK => ?_))
      | (with_reducible refine ev_nil (hK _ _ ?_); clear hK K)
      | (with_reducible refine ed_nil (hK _ _ ?_); clear hK K)
      | ((first | with_reducible refine ev_cons (fun K' hK' => ?_) | with_reducible refine ed_cons (fun K' hK' => ?_) | (with_reducible refine ev_id ?_; refine ev_guard rfl (fun K' hK' => ?_)) | (with_reducible refine ed_id ?_; refine ed_guard rfl (fun K' hK' => ?_))); simp [h7, h0, h1, h2, rows, ints, hlt]; repeat' (first | (with_reducible refine hK' _ _ ?_; clear hK' K') | (with_reducible refine Ret.use fixed7_ret ?_; try simp [h7, h0, h1, h2, rows, ints, hlt]) | (with_reducible refine And.intro ?_ ?_) | (with_reducible intro hg) | (clear hK' K'; omega)))
      | (with_reducible refine w_cond (fun A B hA hB => ?_); simp [h7, h0, h1, h2, rows, ints, hlt]; repeat' (first | (with_reducible refine hA ?_; clear hA hB A B) | (with_reducible refine hB ?_; clear hA hB A B) | (with_reducible refine And.intro ?_ ?_) | (with_reducible intro hc)))
      | (with_reducible refine awp_seq ?_))
    all_goals first | (simp; done) | exact ⟨⟨k + 1, by omega, by simp, by simp [h0], by simp [h1], by simp [h2], rfl⟩, by simp; omega⟩
  · have : k = adj.length := by omega
    subst this
    repeat' (first
      | (with_reducible refine awp_skip ?_)
      | (with_reducible refine then_any ?_)
      | (with_reducible refine then_ret ?_)
      | (with_reducible refine then_exit ?_)
      | (with_reducible refine inBlock_normal ?_)
      | (with_reducible refine inBlock_ret ?_)
      | (with_reducible refine inBlock_hit ?_)
      | (with_reducible refine inBlock_miss (by decide) ?_)
      | (with_reducible refine awp_ret ?_)
      | (with_reducible refine awp_exit ?_)
      | (with_reducible refine post_ret ?_)
      | (with_reducible refine post_normal ?_)
      | (with_reducible refine awp_block ?_)
      | (with_reducible refine v_reg [] (fun K hK => ?_))
      | (with_reducible refine v_reg1 [] (fun K hK => ?_))
      | (with_reducible refine v_draw mixed [] [] (by kernel_rfl) (fun K hK => ?_))
      | (with_reducible refine v_draw1 mixed [] [] (by kernel_rfl) (fun K hK => ?_))
      | (with_reducible refine ev_nil (hK _ _ ?_); clear hK K)
      | (with_reducible refine ed_nil (hK _ _ ?_); clear hK K)
      | ((first | with_reducible refine ev_cons (fun K' hK' => ?_) | with_reducible refine ed_cons (fun K' hK' => ?_) | (with_reducible refine ev_id ?_; refine ev_guard rfl (fun K' hK' => ?_)) | (with_reducible refine ed_id ?_; refine ed_guard rfl (fun K' hK' => ?_))); simp [h7, h0, h1, h2, rows, ints]; repeat' (first | (with_reducible refine hK' _ _ ?_; clear hK' K') | (with_reducible refine Ret.use fixed7_ret ?_; try simp [h7, h0, h1, h2, rows, ints]) | (with_reducible refine Ret.use (path_reach_ret hoa hoi hof hot) ?_; try simp [h7, h0, h1, h2, rows, ints]) | (with_reducible refine Ret.use (path7_ret hoa hoi hof hot) ?_; try simp [h7, h0, h1, h2, rows, ints]) | (with_reducible refine Ret.use (reachMay_ret hoa hoi) ?_; try simp [h7, h0, h1, h2, rows, ints]) | (with_reducible refine Ret.use (may7_ret hoa hoi) ?_; try simp [h7, h0, h1, h2, rows, ints]) | (with_reducible refine Ret.use (from_ret hoa hoi hof) ?_; try simp [h7, h0, h1, h2, rows, ints]) | (with_reducible refine Ret.use (from7_ret hoa hoi hof) ?_; try simp [h7, h0, h1, h2, rows, ints]) | (with_reducible refine Ret.use (same_ret hfl hfl) ?_; try simp [h7, h0, h1, h2, rows, ints]) | (with_reducible refine Ret.use (same_ret hpl hpl) ?_; try simp [h7, h0, h1, h2, rows, ints]) | (with_reducible refine And.intro ?_ ?_) | (with_reducible intro hg) | (clear hK' K'; omega)))
      | (with_reducible refine w_cond (fun A B hA hB => ?_); simp [h7, h0, h1, h2, rows, ints]; repeat' (first | (with_reducible refine hA ?_; clear hA hB A B) | (with_reducible refine hB ?_; clear hA hB A B) | (with_reducible refine And.intro ?_ ?_) | (with_reducible intro hc)))
      | (with_reducible refine awp_seq ?_))
    all_goals simp

theorem reachJoins_ret {adj : List (List Int)} {a b : List Int} (ha : adj.length ≤ 17592186044416) (hin : ∀ p ∈ adj, p.length ≤ 17592186044416) (hf0 : a.length ≤ 17592186044416) (ht0 : b.length ≤ 17592186044416) :
    Ret Try.prog w0 12 [rows adj, ints a, ints b] (B true) := by
  intro H
  have hoa : okLen adj := by omega
  have hoi : ∀ p ∈ adj, okLen p := fun p hp => by have := hin p hp; omega
  have hof : okLen a := by omega
  have hot : okLen b := by omega
  refine w_enter Try.func12 rfl Try.ntmps12 (ts := [6]) rfl (by simp) (by kernel_rfl) ?_
  by_cases hbig : 40 < adj.length
  · have hbig' : (40 : Int) < adj.length := by omega
    repeat' (first
      | (with_reducible refine awp_skip ?_)
      | (with_reducible refine then_any ?_)
      | (with_reducible refine then_ret ?_)
      | (with_reducible refine then_exit ?_)
      | (with_reducible refine inBlock_normal ?_)
      | (with_reducible refine inBlock_ret ?_)
      | (with_reducible refine inBlock_hit ?_)
      | (with_reducible refine inBlock_miss (by decide) ?_)
      | (with_reducible refine awp_ret ?_)
      | (with_reducible refine awp_exit ?_)
      | (with_reducible refine post_ret ?_)
      | (with_reducible refine post_normal ?_)
      | (with_reducible refine awp_block ?_)
      | (with_reducible refine v_reg [] (fun K hK => ?_))
      | (with_reducible refine v_reg1 [] (fun K hK => ?_))
      | (with_reducible refine v_draw mixed [] [] (by kernel_rfl) (fun K hK => ?_))
      | (with_reducible refine v_draw1 mixed [] [] (by kernel_rfl) (fun K hK => ?_))
      | (with_reducible refine ev_nil (hK _ _ ?_); clear hK K)
      | (with_reducible refine ed_nil (hK _ _ ?_); clear hK K)
      | ((first | with_reducible refine ev_cons (fun K' hK' => ?_) | with_reducible refine ed_cons (fun K' hK' => ?_) | (with_reducible refine ev_id ?_; refine ev_guard rfl (fun K' hK' => ?_)) | (with_reducible refine ed_id ?_; refine ed_guard rfl (fun K' hK' => ?_))); simp [rows, ints, hbig']; repeat' (first | (with_reducible refine hK' _ _ ?_; clear hK' K') | (with_reducible refine Ret.use fixed7_ret ?_; try simp [rows, ints, hbig']) | (with_reducible refine And.intro ?_ ?_) | (with_reducible intro hg) | (clear hK' K'; omega)))
      | (with_reducible refine w_cond (fun A B hA hB => ?_); simp [rows, ints, hbig']; repeat' (first | (with_reducible refine hA ?_; clear hA hB A B) | (with_reducible refine hB ?_; clear hA hB A B) | (with_reducible refine And.intro ?_ ?_) | (with_reducible intro hc)))
      | (with_reducible refine awp_seq ?_))
    all_goals simp
  have hbig' : ¬ (40 : Int) < adj.length := by omega
  have hal : okLen (allL (adj.length : Int)) := by unfold allL; split <;> simp; omega
  have hs1 := subAll a (n := adj.length) (by omega)
  have hs2 := subAll b (n := adj.length) (by omega)
  have hr1 := sub2_ret (w0 := w0) hof hal
  have hr2 := sub2_ret (w0 := w0) hot hal
  rw [hs1] at hr1
  rw [hs2] at hr2
  cases hm : mayG adj with
  | false =>
    repeat' (first
      | (with_reducible refine awp_skip ?_)
      | (with_reducible refine then_any ?_)
      | (with_reducible refine then_ret ?_)
      | (with_reducible refine then_exit ?_)
      | (with_reducible refine inBlock_normal ?_)
      | (with_reducible refine inBlock_ret ?_)
      | (with_reducible refine inBlock_hit ?_)
      | (with_reducible refine inBlock_miss (by decide) ?_)
      | (with_reducible refine awp_ret ?_)
      | (with_reducible refine awp_exit ?_)
      | (with_reducible refine post_ret ?_)
      | (with_reducible refine post_normal ?_)
      | (with_reducible refine awp_block ?_)
      | (with_reducible refine v_reg [] (fun K hK => ?_))
      | (with_reducible refine v_reg1 [] (fun K hK => ?_))
      | (with_reducible refine v_draw mixed [] [] (by kernel_rfl) (fun K hK => ?_))
      | (with_reducible refine v_draw1 mixed [] [] (by kernel_rfl) (fun K hK => ?_))
      | (with_reducible refine ev_nil (hK _ _ ?_); clear hK K)
      | (with_reducible refine ed_nil (hK _ _ ?_); clear hK K)
      | ((first | with_reducible refine ev_cons (fun K' hK' => ?_) | with_reducible refine ed_cons (fun K' hK' => ?_) | (with_reducible refine ev_id ?_; refine ev_guard rfl (fun K' hK' => ?_)) | (with_reducible refine ed_id ?_; refine ed_guard rfl (fun K' hK' => ?_))); simp [rows, ints, hbig', hm]; repeat' (first | (with_reducible refine hK' _ _ ?_; clear hK' K') | (with_reducible refine Ret.use fixed7_ret ?_; try simp [rows, ints, hbig', hm]) | (with_reducible refine Ret.use (may7_ret hoa hoi) ?_; try simp [rows, ints, hbig', hm]) | (with_reducible refine And.intro ?_ ?_) | (with_reducible intro hg) | (clear hK' K'; omega)))
      | (with_reducible refine w_cond (fun A B hA hB => ?_); simp [rows, ints, hbig', hm]; repeat' (first | (with_reducible refine hA ?_; clear hA hB A B) | (with_reducible refine hB ?_; clear hA hB A B) | (with_reducible refine And.intro ?_ ?_) | (with_reducible intro hc)))
      | (with_reducible refine awp_seq ?_))
    all_goals simp
  | true =>
  cases hpa : ptsB a adj.length with
  | false =>
    rw [hpa] at hr1
    repeat' (first
      | (with_reducible refine awp_skip ?_)
      | (with_reducible refine then_any ?_)
      | (with_reducible refine then_ret ?_)
      | (with_reducible refine then_exit ?_)
      | (with_reducible refine inBlock_normal ?_)
      | (with_reducible refine inBlock_ret ?_)
      | (with_reducible refine inBlock_hit ?_)
      | (with_reducible refine inBlock_miss (by decide) ?_)
      | (with_reducible refine awp_ret ?_)
      | (with_reducible refine awp_exit ?_)
      | (with_reducible refine post_ret ?_)
      | (with_reducible refine post_normal ?_)
      | (with_reducible refine awp_block ?_)
      | (with_reducible refine v_reg [] (fun K hK => ?_))
      | (with_reducible refine v_reg1 [] (fun K hK => ?_))
      | (with_reducible refine v_draw mixed [] [] (by kernel_rfl) (fun K hK => ?_))
      | (with_reducible refine v_draw1 mixed [] [] (by kernel_rfl) (fun K hK => ?_))
      | (with_reducible refine ev_nil (hK _ _ ?_); clear hK K)
      | (with_reducible refine ed_nil (hK _ _ ?_); clear hK K)
      | ((first | with_reducible refine ev_cons (fun K' hK' => ?_) | with_reducible refine ed_cons (fun K' hK' => ?_) | (with_reducible refine ev_id ?_; refine ev_guard rfl (fun K' hK' => ?_)) | (with_reducible refine ed_id ?_; refine ed_guard rfl (fun K' hK' => ?_))); simp [rows, ints, hbig', hm]; repeat' (first | (with_reducible refine hK' _ _ ?_; clear hK' K') | (with_reducible refine Ret.use fixed7_ret ?_; try simp [rows, ints, hbig', hm]) | (with_reducible refine Ret.use (may7_ret hoa hoi) ?_; try simp [rows, ints, hbig', hm]) | (with_reducible refine Ret.use all2_ret ?_; try simp [rows, ints, hbig', hm]) | (with_reducible refine Ret.use hr1 ?_; try simp [rows, ints, hbig', hm]) | (with_reducible refine And.intro ?_ ?_) | (with_reducible intro hg) | (clear hK' K'; omega)))
      | (with_reducible refine w_cond (fun A B hA hB => ?_); simp [rows, ints, hbig', hm]; repeat' (first | (with_reducible refine hA ?_; clear hA hB A B) | (with_reducible refine hB ?_; clear hA hB A B) | (with_reducible refine And.intro ?_ ?_) | (with_reducible intro hc)))
      | (with_reducible refine awp_seq ?_))
    all_goals simp
  | true =>
  cases hpb : ptsB b adj.length with
  | false =>
    rw [hpa] at hr1
    rw [hpb] at hr2
    repeat' (first
      | (with_reducible refine awp_skip ?_)
      | (with_reducible refine then_any ?_)
      | (with_reducible refine then_ret ?_)
      | (with_reducible refine then_exit ?_)
      | (with_reducible refine inBlock_normal ?_)
      | (with_reducible refine inBlock_ret ?_)
      | (with_reducible refine inBlock_hit ?_)
      | (with_reducible refine inBlock_miss (by decide) ?_)
      | (with_reducible refine awp_ret ?_)
      | (with_reducible refine awp_exit ?_)
      | (with_reducible refine post_ret ?_)
      | (with_reducible refine post_normal ?_)
      | (with_reducible refine awp_block ?_)
      | (with_reducible refine v_reg [] (fun K hK => ?_))
      | (with_reducible refine v_reg1 [] (fun K hK => ?_))
      | (with_reducible refine v_draw mixed [] [] (by kernel_rfl) (fun K hK => ?_))
      | (with_reducible refine v_draw1 mixed [] [] (by kernel_rfl) (fun K hK => ?_))
      | (with_reducible refine ev_nil (hK _ _ ?_); clear hK K)
      | (with_reducible refine ed_nil (hK _ _ ?_); clear hK K)
      | ((first | with_reducible refine ev_cons (fun K' hK' => ?_) | with_reducible refine ed_cons (fun K' hK' => ?_) | (with_reducible refine ev_id ?_; refine ev_guard rfl (fun K' hK' => ?_)) | (with_reducible refine ed_id ?_; refine ed_guard rfl (fun K' hK' => ?_))); simp [rows, ints, hbig', hm]; repeat' (first | (with_reducible refine hK' _ _ ?_; clear hK' K') | (with_reducible refine Ret.use fixed7_ret ?_; try simp [rows, ints, hbig', hm]) | (with_reducible refine Ret.use (may7_ret hoa hoi) ?_; try simp [rows, ints, hbig', hm]) | (with_reducible refine Ret.use all2_ret ?_; try simp [rows, ints, hbig', hm]) | (with_reducible refine Ret.use hr1 ?_; try simp [rows, ints, hbig', hm]) | (with_reducible refine Ret.use hr2 ?_; try simp [rows, ints, hbig', hm]) | (with_reducible refine And.intro ?_ ?_) | (with_reducible intro hg) | (clear hK' K'; omega)))
      | (with_reducible refine w_cond (fun A B hA hB => ?_); simp [rows, ints, hbig', hm]; repeat' (first | (with_reducible refine hA ?_; clear hA hB A B) | (with_reducible refine hB ?_; clear hA hB A B) | (with_reducible refine And.intro ?_ ?_) | (with_reducible intro hc)))
      | (with_reducible refine awp_seq ?_))
    all_goals simp
  | true =>
  rw [hpa] at hr1
  rw [hpb] at hr2
  have hG := gr_iff.1 hm
  have hA := pts_iff.1 hpa
  have hB := pts_iff.1 hpb
  have hLA := lev_pts hG hA adj.length
  have hLB := lev_pts hG hB adj.length
  have hU := hA.union hB
  have e1 : fromL adj a = levL adj a adj.length := by simp [fromL, hm, hpa]
  have e2 : fromL adj b = levL adj b adj.length := by simp [fromL, hm, hpb]
  have e3 : fromL adj (unionR a b) = unionR (fromL adj a) (fromL adj b) := by rw [e1, e2, ← lev_union hG hA hB]; simp [fromL, hm, pts_iff.2 hU]
  have e4 : fromL adj (fromL adj a) = fromL adj a := by rw [e1]; simp [fromL, hm, pts_iff.2 hLA, lev_again hG hA]
  rw [← e1] at hLA
  rw [← e2] at hLB
  have l1 := hA.length
  have l2 := hB.length
  have l3 := hLA.length
  have l4 := hLB.length
  have l5 := hU.length
  have l6 := (hLA.union hLB).length
  have s1 : smLen (a ++ b) := by rw [smLen, List.length_append]; omega
  have s2 : smLen (fromL adj a ++ fromL adj b) := by rw [smLen, List.length_append]; omega
  have o1 : okLen (unionR a b) := by omega
  have o2 : okLen (fromL adj a) := by omega
  have o3 : okLen (unionR (fromL adj a) (fromL adj b)) := by omega
  have c1 := from_ret (w0 := w0) hoa hoi o1
  have c2 := from_ret (w0 := w0) hoa hoi o2
  rw [e3] at c1
  rw [e4] at c2
  have c3 := from_ret (w0 := w0) hoa hoi hof
  have c4 := from_ret (w0 := w0) hoa hoi hot
  generalize fromL adj a = x at *
  generalize fromL adj b = y at *
  generalize hab : unionR a b = ab at *
  have c5 := union2_ret (w0 := w0) s1
  rw [hab] at c5
  repeat' (first
    | (with_reducible refine awp_skip ?_)
    | (with_reducible refine then_any ?_)
    | (with_reducible refine then_ret ?_)
    | (with_reducible refine then_exit ?_)
    | (with_reducible refine inBlock_normal ?_)
    | (with_reducible refine inBlock_ret ?_)
    | (with_reducible refine inBlock_hit ?_)
    | (with_reducible refine inBlock_miss (by decide) ?_)
    | (with_reducible refine awp_ret ?_)
    | (with_reducible refine awp_exit ?_)
    | (with_reducible refine post_ret ?_)
    | (with_reducible refine post_normal ?_)
    | (with_reducible refine awp_block ?_)
    | (with_reducible refine v_reg [] (fun K hK => ?_))
    | (with_reducible refine v_reg1 [] (fun K hK => ?_))
    | (with_reducible refine v_draw mixed [] [] (by kernel_rfl) (fun K hK => ?_))
    | (with_reducible refine v_draw1 mixed [] [] (by kernel_rfl) (fun K hK => ?_))
    | (with_reducible refine ev_nil (hK _ _ ?_); clear hK K)
    | (with_reducible refine ed_nil (hK _ _ ?_); clear hK K)
    | ((first | with_reducible refine ev_cons (fun K' hK' => ?_) | with_reducible refine ed_cons (fun K' hK' => ?_) | (with_reducible refine ev_id ?_; refine ev_guard rfl (fun K' hK' => ?_)) | (with_reducible refine ed_id ?_; refine ed_guard rfl (fun K' hK' => ?_))); simp [rows, ints, hbig', hm]; repeat' (first | (with_reducible refine hK' _ _ ?_; clear hK' K') | (with_reducible refine Ret.use fixed7_ret ?_; try simp [rows, ints, hbig', hm]) | (with_reducible refine Ret.use (may7_ret hoa hoi) ?_; try simp [rows, ints, hbig', hm]) | (with_reducible refine Ret.use all2_ret ?_; try simp [rows, ints, hbig', hm]) | (with_reducible refine Ret.use hr1 ?_; try simp [rows, ints, hbig', hm]) | (with_reducible refine Ret.use hr2 ?_; try simp [rows, ints, hbig', hm]) | (with_reducible refine Ret.use c1 ?_; try simp [rows, ints, hbig', hm]) | (with_reducible refine Ret.use c2 ?_; try simp [rows, ints, hbig', hm]) | (with_reducible refine Ret.use c3 ?_; try simp [rows, ints, hbig', hm]) | (with_reducible refine Ret.use c4 ?_; try simp [rows, ints, hbig', hm]) | (with_reducible refine Ret.use c5 ?_; try simp [rows, ints, hbig', hm]) | (with_reducible refine Ret.use (union2_ret s2) ?_; try simp [rows, ints, hbig', hm]) | (with_reducible refine Ret.use (same_ret o3 o3) ?_; try simp [rows, ints, hbig', hm]) | (with_reducible refine Ret.use (same_ret o2 o2) ?_; try simp [rows, ints, hbig', hm]) | (with_reducible refine And.intro ?_ ?_) | (with_reducible intro hg) | (clear hK' K'; omega)))
    | (with_reducible refine w_cond (fun A B hA hB => ?_); simp [rows, ints, hbig', hm]; repeat' (first | (with_reducible refine hA ?_; clear hA hB A B) | (with_reducible refine hB ?_; clear hA hB A B) | (with_reducible refine And.intro ?_ ?_) | (with_reducible intro hc)))
    | (with_reducible refine awp_seq ?_))
  all_goals simp
end Go.Am
