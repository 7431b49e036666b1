/- Contracts and plain laws that the law ArborCheapest needs, part 12. -/
import Derived.Test.YtkgcmgbndapjcaaZArborCheapest11
namespace Go.Am
open Go Go.Proofs
set_option linter.unusedVariables false
set_option linter.unusedSimpArgs false
variable {w0 : World}
attribute [local irreducible] AWP ACalls
attribute [local congr] acalls_congr
set_option maxRecDepth 20000 in
set_option maxHeartbeats 4000000 in
theorem arborCheapest_ret {n root : Int} {arcs : List (Int × Int)} {cost : List Int} (ha : okLen arcs) (hc : okLen cost) : Ret Try.prog w0 9 [.agg [I n, pairs arcs, ints cost, I root]] (B true) := by
  intro H
  have c0 := may19_ret (w0 := w0) (n := n) (root := root) ha hc
  simp only [pairs, ints] at c0
  refine w_enter Try.func9 rfl Try.ntmps9 (ts := [2]) rfl (by simp) (by kernel_rfl) ?_
  by_cases g1 : 5 < n
  · repeat' (first
      | (with_reducible refine awp_skip ?_)
      | (with_reducible refine then_any ?_)
      | (with_reducible refine then_ret ?_)
      | (with_reducible refine then_exit ?_)
      | (with_reducible refine inBlock_normal ?_)
      | (with_reducible refine inBlock_ret ?_)
      | (with_reducible refine inBlock_hit ?_)
      | (with_reducible refine inBlock_miss (by decide) ?_)
      | (with_reducible refine awp_ret ?_)
      | (with_reducible refine awp_exit ?_)
      | (with_reducible refine post_ret ?_)
      | (with_reducible refine post_normal ?_)
      | (with_reducible refine awp_block ?_)
      | (with_reducible refine awp_scope_ret ?_)
      | (with_reducible refine awp_label ?_)
      | (with_reducible refine v_reg [] (fun K hK => ?_))
      | (with_reducible refine v_reg1 [] (fun K hK => ?_))
      | (with_reducible refine v_draw mixed [] [] (by kernel_rfl) (fun K hK => ?_))
      | (with_reducible refine v_draw1 mixed [] [] (by kernel_rfl) (fun K hK => ?_))
      | (with_reducible refine ev_nil (hK _ _ ?_); clear hK K)
      | (with_reducible refine ed_nil (hK _ _ ?_); clear hK K)
      | ((first | with_reducible refine ev_cons (fun K' hK' => ?_) | with_reducible refine ed_cons (fun K' hK' => ?_) | (with_reducible refine ev_id ?_; refine ev_guard rfl (fun K' hK' => ?_)) | (with_reducible refine ed_id ?_; refine ed_guard rfl (fun K' hK' => ?_))); simp [pairs, ints, g1]; repeat' (first | (with_reducible refine hK' _ _ ?_; clear hK' K') | (with_reducible refine Ret.use fixed19_ret ?_; try simp [pairs, ints, g1]) | (with_reducible refine And.intro ?_ ?_) | (with_reducible intro hg) | (clear hK' K'; omega)))
      | (with_reducible refine w_cond (fun A B hA hB => ?_); simp [pairs, ints, g1]; repeat' (first | (with_reducible refine hA ?_; clear hA hB A B) | (with_reducible refine hB ?_; clear hA hB A B) | (with_reducible refine And.intro ?_ ?_) | (with_reducible intro hc)))
      | (with_reducible refine awp_seq ?_))
    exact ⟨by simp, sub_new (by assumption)⟩
  by_cases g2 : (9 : Int) < arcs.length
  · repeat' (first
      | (with_reducible refine awp_skip ?_)
      | (with_reducible refine then_any ?_)
      | (with_reducible refine then_ret ?_)
      | (with_reducible refine then_exit ?_)
      | (with_reducible refine inBlock_normal ?_)
      | (with_reducible refine inBlock_ret ?_)
      | (with_reducible refine inBlock_hit ?_)
      | (with_reducible refine inBlock_miss (by decide) ?_)
      | (with_reducible refine awp_ret ?_)
      | (with_reducible refine awp_exit ?_)
      | (with_reducible refine post_ret ?_)
      | (with_reducible refine post_normal ?_)
      | (with_reducible refine awp_block ?_)
      | (with_reducible refine awp_scope_ret ?_)
      | (with_reducible refine awp_label ?_)
      | (with_reducible refine v_reg [] (fun K hK => ?_))
      | (with_reducible refine v_reg1 [] (fun K hK => ?_))
      | (with_reducible refine v_draw mixed [] [] (by kernel_rfl) (fun K hK => ?_))
      | (with_reducible refine v_draw1 mixed [] [] (by kernel_rfl) (fun K hK => ?_))
      | (with_reducible refine ev_nil (hK _ _ ?_); clear hK K)
      | (with_reducible refine ed_nil (hK _ _ ?_); clear hK K)
      | ((first | with_reducible refine ev_cons (fun K' hK' => ?_) | with_reducible refine ed_cons (fun K' hK' => ?_) | (with_reducible refine ev_id ?_; refine ev_guard rfl (fun K' hK' => ?_)) | (with_reducible refine ed_id ?_; refine ed_guard rfl (fun K' hK' => ?_))); simp [pairs, ints, g1, g2]; repeat' (first | (with_reducible refine hK' _ _ ?_; clear hK' K') | (with_reducible refine Ret.use fixed19_ret ?_; try simp [pairs, ints, g1, g2]) | (with_reducible refine And.intro ?_ ?_) | (with_reducible intro hg) | (clear hK' K'; omega)))
      | (with_reducible refine w_cond (fun A B hA hB => ?_); simp [pairs, ints, g1, g2]; repeat' (first | (with_reducible refine hA ?_; clear hA hB A B) | (with_reducible refine hB ?_; clear hA hB A B) | (with_reducible refine And.intro ?_ ?_) | (with_reducible intro hc)))
      | (with_reducible refine awp_seq ?_))
    exact ⟨by simp, sub_new (by assumption)⟩
  cases g3 : mayC n arcs cost root with
  | false =>
    rw [g3] at c0
    repeat' (first
      | (with_reducible refine awp_skip ?_)
      | (with_reducible refine then_any ?_)
      | (with_reducible refine then_ret ?_)
      | (with_reducible refine then_exit ?_)
      | (with_reducible refine inBlock_normal ?_)
      | (with_reducible refine inBlock_ret ?_)
      | (with_reducible refine inBlock_hit ?_)
      | (with_reducible refine inBlock_miss (by decide) ?_)
      | (with_reducible refine awp_ret ?_)
      | (with_reducible refine awp_exit ?_)
      | (with_reducible refine post_ret ?_)
      | (with_reducible refine post_normal ?_)
      | (with_reducible refine awp_block ?_)
      | (with_reducible refine awp_scope_ret ?_)
      | (with_reducible refine awp_label ?_)
      | (with_reducible refine v_reg [] (fun K hK => ?_))
      | (with_reducible refine v_reg1 [] (fun K hK => ?_))
      | (with_reducible refine v_draw mixed [] [] (by kernel_rfl) (fun K hK => ?_))
      | (with_reducible refine v_draw1 mixed [] [] (by kernel_rfl) (fun K hK => ?_))
      | (with_reducible refine ev_nil (hK _ _ ?_); clear hK K)
      | (with_reducible refine ed_nil (hK _ _ ?_); clear hK K)
      | ((first | with_reducible refine ev_cons (fun K' hK' => ?_) | with_reducible refine ed_cons (fun K' hK' => ?_) | (with_reducible refine ev_id ?_; refine ev_guard rfl (fun K' hK' => ?_)) | (with_reducible refine ed_id ?_; refine ed_guard rfl (fun K' hK' => ?_))); simp [pairs, ints, g1, g2]; repeat' (first | (with_reducible refine hK' _ _ ?_; clear hK' K') | (with_reducible refine Ret.use fixed19_ret ?_; try simp [pairs, ints, g1, g2]) | (with_reducible refine Ret.use c0 ?_; try simp [pairs, ints, g1, g2]) | (with_reducible refine And.intro ?_ ?_) | (with_reducible intro hg) | (clear hK' K'; omega)))
      | (with_reducible refine w_cond (fun A B hA hB => ?_); simp [pairs, ints, g1, g2]; repeat' (first | (with_reducible refine hA ?_; clear hA hB A B) | (with_reducible refine hB ?_; clear hA hB A B) | (with_reducible refine And.intro ?_ ?_) | (with_reducible intro hc)))
      | (with_reducible refine awp_seq ?_))
    exact ⟨by simp, sub_new (by assumption)⟩
  | true =>
  rw [g3] at c0
  have hk := cheap_know (m := n.toNat) (arcs := arcs) (cost := cost) (root := root) (by
    obtain ⟨m, e, _⟩ := mayC_net g3
    rw [show ((n.toNat : Nat) : Int) = n by omega]; exact g3)
  obtain ⟨m, rfl, hm1, N, hcl, hcb⟩ := mayC_net g3
  rw [Int.toNat_natCast] at hk
  have c1 := cheap_ret (w0 := w0) (n := m) (root := root) ha hc
  cases hk with
  | err S e no hp ne hr he =>
    rw [e] at c1
    have hsl := hp.length
    have c2 := set9_ret (w0 := w0) (l := S) (n := m) (by simp only [okLen]; omega)
    rw [pts_iff.2 hp] at c2
    have c3 := has19_ret (w0 := w0) (l := S) (x := root) (by simp only [okLen]; omega)
    rw [decide_eq_false hr] at c3
    have c4 := enters19_ret (w0 := w0) (arcs := arcs) (s := S) (by simp only [smLen]; omega) (by simp only [okLen]; omega)
    rw [he] at c4
    have hpos : 0 < S.length := List.length_pos_iff.2 ne
    simp only [cheapV, cutsA, cutCells, ints, pairs, List.flatMap_cons, List.flatMap_nil, List.append_nil, List.length_cons, List.length_nil, List.map_nil] at c1 c2 c3 c4
    repeat' (first
      | (with_reducible refine awp_skip ?_)
      | (with_reducible refine then_any ?_)
      | (with_reducible refine then_ret ?_)
      | (with_reducible refine then_exit ?_)
      | (with_reducible refine inBlock_normal ?_)
      | (with_reducible refine inBlock_ret ?_)
      | (with_reducible refine inBlock_hit ?_)
      | (with_reducible refine inBlock_miss (by decide) ?_)
      | (with_reducible refine awp_ret ?_)
      | (with_reducible refine awp_exit ?_)
      | (with_reducible refine post_ret ?_)
      | (with_reducible refine post_normal ?_)
      | (with_reducible refine awp_block ?_)
      | (with_reducible refine awp_scope_ret ?_)
      | (with_reducible refine awp_label ?_)
      | ((fail_if_success (with_reducible refine at_reg 5 ?_)); with_reducible refine v_reg [] (fun K hK => ?_))
      | ((fail_if_success (with_reducible refine (?_ : AWP _ _ _ (Code.region 5 _ _) _ _ _))); with_reducible refine v_reg1 [] (fun K hK => ?_))
      | ((fail_if_success (with_reducible refine at_reg 5 ?_)); with_reducible refine v_draw mixed [] [] (by kernel_rfl) (fun K hK => ?_))
      | ((fail_if_success (with_reducible refine (?_ : AWP _ _ _ (Code.region 5 _ _) _ _ _))); with_reducible refine v_draw1 mixed [] [] (by kernel_rfl) (fun K hK => ?_))
      | (with_reducible refine ev_nil (hK _ _ ?_); clear hK K)
      | (with_reducible refine ed_nil (hK _ _ ?_); clear hK K)
      | ((first | with_reducible refine ev_cons (fun K' hK' => ?_) | with_reducible refine ed_cons (fun K' hK' => ?_) | (with_reducible refine ev_id ?_; refine ev_guard rfl (fun K' hK' => ?_)) | (with_reducible refine ed_id ?_; refine ed_guard rfl (fun K' hK' => ?_))); simp [pairs, ints, g1, g2]; repeat' (first | (with_reducible refine hK' _ _ ?_; clear hK' K') | (with_reducible refine Ret.use fixed19_ret ?_; try simp [pairs, ints, g1, g2]) | (with_reducible refine Ret.use c0 ?_; try simp [pairs, ints, g1, g2]) | (with_reducible refine Ret.use c1 ?_; try simp [pairs, ints, g1, g2]) | (with_reducible refine And.intro ?_ ?_) | (with_reducible intro hg) | (clear hK' K'; omega)))
      | (with_reducible refine w_cond (fun A B hA hB => ?_); simp [pairs, ints, g1, g2]; repeat' (first | (with_reducible refine hA ?_; clear hA hB A B) | (with_reducible refine hB ?_; clear hA hB A B) | (with_reducible refine And.intro ?_ ?_) | (with_reducible intro hc)))
      | ((fail_if_success (with_reducible refine at_reg 5 ?_)); with_reducible refine awp_seq ?_))
    repeat' (first
      | (with_reducible refine awp_skip ?_)
      | (with_reducible refine then_any ?_)
      | (with_reducible refine then_ret ?_)
      | (with_reducible refine then_exit ?_)
      | (with_reducible refine inBlock_normal ?_)
      | (with_reducible refine inBlock_ret ?_)
      | (with_reducible refine inBlock_hit ?_)
      | (with_reducible refine inBlock_miss (by decide) ?_)
      | (with_reducible refine awp_ret ?_)
      | (with_reducible refine awp_exit ?_)
      | (with_reducible refine post_ret ?_)
      | (with_reducible refine post_normal ?_)
      | (with_reducible refine awp_block ?_)
      | (with_reducible refine awp_scope_ret ?_)
      | (with_reducible refine awp_label ?_)
      | (with_reducible refine v_reg [] (fun K hK => ?_))
      | (with_reducible refine v_reg1 [] (fun K hK => ?_))
      | (with_reducible refine v_draw mixed [] [67, 84, 90] (by kernel_rfl) (fun K hK => ?_))
      | (with_reducible refine v_draw1 mixed [] [67, 84, 90] (by kernel_rfl) (fun K hK => ?_))
      | (with_reducible refine ev_nil (hK _ _ ?_); clear hK K)
      | (with_reducible refine ed_nil (hK _ _ ?_); clear hK K)
      | ((first | with_reducible refine ev_cons (fun K' hK' => ?_) | with_reducible refine ed_cons (fun K' hK' => ?_) | (with_reducible refine ev_id ?_; refine ev_guard rfl (fun K' hK' => ?_)) | (with_reducible refine ed_id ?_; refine ed_guard rfl (fun K' hK' => ?_))); simp [pairs, ints, hpos, ne, boxes, Blk.isArr, KeepsBox.refl]; repeat' (first | (with_reducible refine hK' _ _ ?_; clear hK' K') | (with_reducible refine Ret.use c2 ?_; try simp [pairs, ints, hpos, ne, boxes, Blk.isArr, KeepsBox.refl]) | (with_reducible refine Ret.use c3 ?_; try simp [pairs, ints, hpos, ne, boxes, Blk.isArr, KeepsBox.refl]) | (with_reducible refine Ret.use c4 ?_; try simp [pairs, ints, hpos, ne, boxes, Blk.isArr, KeepsBox.refl]) | (with_reducible refine And.intro ?_ ?_) | (with_reducible intro hg) | (clear hK' K'; omega)))
      | (with_reducible refine w_cond (fun A B hA hB => ?_); simp [pairs, ints, hpos, ne, boxes, Blk.isArr, KeepsBox.refl]; repeat' (first | (with_reducible refine hA ?_; clear hA hB A B) | (with_reducible refine hB ?_; clear hA hB A B) | (with_reducible refine And.intro ?_ ?_) | (with_reducible intro hc)))
      | (with_reducible refine awp_seq ?_))
    all_goals exact ⟨by simp, sub_new (by assumption)⟩
  | ok t cuts e b s p l =>
    rw [e] at c1
    have hp := (arborB_iff.1 b.arb).1
    have htl := hp.length
    have hcf : ∀ i : Int, 0 ≤ i → i < cost.length → -8589934592 ≤ costF cost i ∧ costF cost i ≤ 8589934592 := fun i i0 i1 => by have := hcb i i0 (by omega); omega
    have c2 := arbor19_ret (w0 := w0) (s := t) N (by omega)
    rw [b.arb] at c2
    have c3 := weight_ret (w0 := w0) (w := cost) (s := t) (by rw [hcl]; exact hp) hcf (by omega)
    simp only [cheapV, cutsA, ints, pairs] at c1 c2 c3
    repeat' (first
      | (with_reducible refine awp_skip ?_)
      | (with_reducible refine then_any ?_)
      | (with_reducible refine then_ret ?_)
      | (with_reducible refine then_exit ?_)
      | (with_reducible refine inBlock_normal ?_)
      | (with_reducible refine inBlock_ret ?_)
      | (with_reducible refine inBlock_hit ?_)
      | (with_reducible refine inBlock_miss (by decide) ?_)
      | (with_reducible refine awp_ret ?_)
      | (with_reducible refine awp_exit ?_)
      | (with_reducible refine post_ret ?_)
      | (with_reducible refine post_normal ?_)
      | (with_reducible refine awp_block ?_)
      | (with_reducible refine awp_scope_ret ?_)
      | (with_reducible refine awp_label ?_)
      | (with_reducible refine v_reg [9] (fun K hK => ?_))
      | (with_reducible refine v_reg1 [9] (fun K hK => ?_))
      | (with_reducible refine v_draw mixed [9] [] (by kernel_rfl) (fun K hK => ?_))
      | (with_reducible refine v_draw1 mixed [9] [] (by kernel_rfl) (fun K hK => ?_))
      | (with_reducible refine ev_nil (hK _ _ ?_); clear hK K)
      | (with_reducible refine ed_nil (hK _ _ ?_); clear hK K)
      | ((first | with_reducible refine ev_cons (fun K' hK' => ?_) | with_reducible refine ed_cons (fun K' hK' => ?_) | (with_reducible refine ev_id ?_; refine ev_guard rfl (fun K' hK' => ?_)) | (with_reducible refine ed_id ?_; refine ed_guard rfl (fun K' hK' => ?_))); simp [pairs, ints, g1, g2]; repeat' (first | (with_reducible refine hK' _ _ ?_; clear hK' K') | (with_reducible refine Ret.use fixed19_ret ?_; try simp [pairs, ints, g1, g2]) | (with_reducible refine Ret.use c0 ?_; try simp [pairs, ints, g1, g2]) | (with_reducible refine Ret.use c1 ?_; try simp [pairs, ints, g1, g2]) | (with_reducible refine Ret.use c2 ?_; try simp [pairs, ints, g1, g2]) | (with_reducible refine And.intro ?_ ?_) | (with_reducible intro hg) | (clear hK' K'; omega)))
      | (with_reducible refine w_cond (fun A B hA hB => ?_); simp [pairs, ints, g1, g2]; repeat' (first | (with_reducible refine hA ?_; clear hA hB A B) | (with_reducible refine hB ?_; clear hA hB A B) | (with_reducible refine And.intro ?_ ?_) | (with_reducible intro hc)))
      | (with_reducible refine awp_seq ?_))
    rename_i x
    have hx : H x = none := hg
    clear hg
    obtain ⟨H1, hH1⟩ : ∃ H1, H1 = upd H x (some (.box [I m, pairs arcs, ints cost, I root])) := ⟨_, rfl⟩
    have hsub : Sub H H1 := by rw [hH1]; exact sub_new hx
    have hx1 : H1 x = some (.box [I m, pairs arcs, ints cost, I root]) := by rw [hH1, upd_same]
    have hpow : (2 : Int) ^ arcs.length = ((2 ^ arcs.length : Nat) : Int) := by simp
    have hp30 : 2 ^ arcs.length ≤ 512 := Nat.le_trans (Nat.pow_le_pow_right (by omega) (show arcs.length ≤ 9 by omega)) (by decide)
    have hmin : min arcs.length 64 = arcs.length := by omega
    generalize hN : 2 ^ arcs.length = M at *
    refine awp_loop (fun env h => ∃ k : Nat, k ≤ M ∧ env 6 = I k ∧ env 1 = .ptr x 0 0 ∧ env 3 = ints t ∧ h = H1) (fun env _ => M - natA (env 6)) ?_ ?_
    · exact ⟨0, by omega, by simp, by simp, by simp [ints], by rw [hH1]⟩
    clear hH1 hx
    rintro env h ⟨k, hk, h6, h1, h3, rfl⟩
    have hnat : natA (env 6) = k := by simp [h6]
    rw [hnat]; clear hnat
    simp only [pairs, ints] at hx1
    by_cases hlt : k < M
    · have c4 := subset_ret (w0 := w0) (n := arcs.length) (bits := k) (by omega) (by omega)
      have hps := subL_pts (n := arcs.length) (by omega) k
      have hsl := hps.length
      have c5 := weight_ret (w0 := w0) (w := cost) (s := subL arcs.length k) (by rw [hcl]; exact hps) hcf (by omega)
      have c6 := arbor19_ret (w0 := w0) (s := subL arcs.length k) N (by omega)
      have hbest := b.least (subL arcs.length k)
      generalize subL arcs.length k = u at *
      generalize costS (costF cost) u = z at *
      generalize costS (costF cost) t = z' at *
      simp only [ints, pairs] at c4 c5 c6
      repeat' (first
        | (with_reducible refine awp_skip ?_)
        | (with_reducible refine then_any ?_)
        | (with_reducible refine then_ret ?_)
        | (with_reducible refine then_exit ?_)
        | (with_reducible refine inBlock_normal ?_)
        | (with_reducible refine inBlock_ret ?_)
        | (with_reducible refine inBlock_hit ?_)
        | (with_reducible refine inBlock_miss (by decide) ?_)
        | (with_reducible refine awp_ret ?_)
        | (with_reducible refine awp_exit ?_)
        | (with_reducible refine post_ret ?_)
        | (with_reducible refine post_normal ?_)
        | (with_reducible refine awp_block ?_)
        | (with_reducible refine awp_scope_ret ?_)
        | (with_reducible refine awp_label ?_)
        | ((fail_if_success (with_reducible refine at_reg 12 ?_)); with_reducible refine v_reg [] (fun K hK => ?_))
        | ((fail_if_success (with_reducible refine (?_ : AWP _ _ _ (Code.region 12 _ _) _ _ _))); with_reducible refine v_reg1 [] (fun K hK => ?_))
        | ((fail_if_success (with_reducible refine at_reg 12 ?_)); with_reducible refine v_draw mixed [] [] (by kernel_rfl) (fun K hK => ?_))
        | ((fail_if_success (with_reducible refine (?_ : AWP _ _ _ (Code.region 12 _ _) _ _ _))); with_reducible refine v_draw1 mixed [] [] (by kernel_rfl) (fun K hK => ?_))
        | (with_reducible refine ev_nil (hK _ _ ?_); clear hK K)
        | (with_reducible refine ed_nil (hK _ _ ?_); clear hK K)
        | ((first | with_reducible refine ev_cons (fun K' hK' => ?_) | with_reducible refine ed_cons (fun K' hK' => ?_) | (with_reducible refine ev_id ?_; refine ev_guard rfl (fun K' hK' => ?_)) | (with_reducible refine ed_id ?_; refine ed_guard rfl (fun K' hK' => ?_))); simp [h6, h1, h3, hx1, pairs, ints, hmin, hpow, hN, hlt, IntKind.bits]; repeat' (first | (with_reducible refine hK' _ _ ?_; clear hK' K') | (with_reducible refine Ret.use c4 ?_; try simp [h6, h1, h3, hx1, pairs, ints, hmin, hpow, hN, hlt, IntKind.bits]) | (with_reducible refine And.intro ?_ ?_) | (with_reducible intro hg) | (clear hK' K'; omega)))
        | (with_reducible refine w_cond (fun A B hA hB => ?_); simp [h6, h1, h3, hx1, pairs, ints, hmin, hpow, hN, hlt, IntKind.bits]; repeat' (first | (with_reducible refine hA ?_; clear hA hB A B) | (with_reducible refine hB ?_; clear hA hB A B) | (with_reducible refine And.intro ?_ ?_) | (with_reducible intro hc)))
        | ((fail_if_success (with_reducible refine at_reg 12 ?_)); with_reducible refine awp_seq ?_))
      by_cases q1 : (u.length : Int) = (m : Int) - 1
      · refine v_draw_perm mixed [] [124, 129, 133, 140, 142, 145] [0, 1, 2, 3, 4, 5, 6, 7, 8, 9, 11, 12, 13, 10, 14, 15, 16, 17, 18, 19, 20, 21, 22, 23, 24, 25, 26] (by kernel_rfl) (fun K hK => ?_)
        simp only [List.filterMap_cons, List.filterMap_nil, List.getElem?_cons_succ, List.getElem?_cons_zero]
        by_cases q2 : z < z'
        · have hno : arborB arcs m u root = false := by
            cases hb : arborB arcs m u root with
            | false => rfl
            | true => have := hbest hb; omega
          rw [hno] at c6
          repeat' (first
            | (with_reducible refine awp_skip ?_)
            | (with_reducible refine then_any ?_)
            | (with_reducible refine then_ret ?_)
            | (with_reducible refine then_exit ?_)
            | (with_reducible refine inBlock_normal ?_)
            | (with_reducible refine inBlock_ret ?_)
            | (with_reducible refine inBlock_hit ?_)
            | (with_reducible refine inBlock_miss (by decide) ?_)
            | (with_reducible refine awp_ret ?_)
            | (with_reducible refine awp_exit ?_)
            | (with_reducible refine post_ret ?_)
            | (with_reducible refine post_normal ?_)
            | (with_reducible refine awp_block ?_)
            | (with_reducible refine awp_scope_ret ?_)
            | (with_reducible refine awp_label ?_)
            | (with_reducible refine v_reg [] (fun K hK => ?_))
            | (with_reducible refine v_reg1 [] (fun K hK => ?_))
            | (with_reducible refine v_draw mixed [] [124, 129, 133, 140, 142, 145] (by kernel_rfl) (fun K hK => ?_))
            | (with_reducible refine v_draw1 mixed [] [124, 129, 133, 140, 142, 145] (by kernel_rfl) (fun K hK => ?_))
            | (with_reducible refine ev_nil (hK _ _ ?_); clear hK K)
            | (with_reducible refine ed_nil (hK _ _ ?_); clear hK K)
            | ((first | with_reducible refine ev_cons (fun K' hK' => ?_) | with_reducible refine ed_cons (fun K' hK' => ?_) | (with_reducible refine ev_id ?_; refine ev_guard rfl (fun K' hK' => ?_)) | (with_reducible refine ed_id ?_; refine ed_guard rfl (fun K' hK' => ?_))); simp [h6, h1, h3, hx1, pairs, ints, q1, q2, boxes, Blk.isArr, KeepsBox.refl]; repeat' (first | (with_reducible refine hK' _ _ ?_; clear hK' K') | (with_reducible refine Ret.use c5 ?_; try simp [h6, h1, h3, hx1, pairs, ints, q1, q2, boxes, Blk.isArr, KeepsBox.refl]) | (with_reducible refine Ret.use c3 ?_; try simp [h6, h1, h3, hx1, pairs, ints, q1, q2, boxes, Blk.isArr, KeepsBox.refl]) | (with_reducible refine Ret.use c6 ?_; try simp [h6, h1, h3, hx1, pairs, ints, q1, q2, boxes, Blk.isArr, KeepsBox.refl]) | (with_reducible refine And.intro ?_ ?_) | (with_reducible intro hg) | (clear hK' K'; omega)))
            | (with_reducible refine w_cond (fun A B hA hB => ?_); simp [h6, h1, h3, hx1, pairs, ints, q1, q2, boxes, Blk.isArr, KeepsBox.refl]; repeat' (first | (with_reducible refine hA ?_; clear hA hB A B) | (with_reducible refine hB ?_; clear hA hB A B) | (with_reducible refine And.intro ?_ ?_) | (with_reducible intro hc)))
            | (with_reducible refine awp_seq ?_))
          exact ⟨⟨k + 1, by omega, by simp, by simp [h1], by simp [h3, ints], rfl⟩, by simp; omega⟩
        · repeat' (first
            | (with_reducible refine awp_skip ?_)
            | (with_reducible refine then_any ?_)
            | (with_reducible refine then_ret ?_)
            | (with_reducible refine then_exit ?_)
            | (with_reducible refine inBlock_normal ?_)
            | (with_reducible refine inBlock_ret ?_)
            | (with_reducible refine inBlock_hit ?_)
            | (with_reducible refine inBlock_miss (by decide) ?_)
            | (with_reducible refine awp_ret ?_)
            | (with_reducible refine awp_exit ?_)
            | (with_reducible refine post_ret ?_)
            | (with_reducible refine post_normal ?_)
            | (with_reducible refine awp_block ?_)
            | (with_reducible refine awp_scope_ret ?_)
            | (with_reducible refine awp_label ?_)
            | (with_reducible refine v_reg [] (fun K hK => ?_))
            | (with_reducible refine v_reg1 [] (fun K hK => ?_))
            | (with_reducible refine v_draw mixed [] [124, 129, 133, 140, 142, 145] (by kernel_rfl) (fun K hK => ?_))
            | (with_reducible refine v_draw1 mixed [] [124, 129, 133, 140, 142, 145] (by kernel_rfl) (fun K hK => ?_))
            | (with_reducible refine ev_nil (hK _ _ ?_); clear hK K)
            | (with_reducible refine ed_nil (hK _ _ ?_); clear hK K)
            | ((first | with_reducible refine ev_cons (fun K' hK' => ?_) | with_reducible refine ed_cons (fun K' hK' => ?_) | (with_reducible refine ev_id ?_; refine ev_guard rfl (fun K' hK' => ?_)) | (with_reducible refine ed_id ?_; refine ed_guard rfl (fun K' hK' => ?_))); simp [h6, h1, h3, hx1, pairs, ints, q1, q2, boxes, Blk.isArr, KeepsBox.refl]; repeat' (first | (with_reducible refine hK' _ _ ?_; clear hK' K') | (with_reducible refine Ret.use c5 ?_; try simp [h6, h1, h3, hx1, pairs, ints, q1, q2, boxes, Blk.isArr, KeepsBox.refl]) | (with_reducible refine Ret.use c3 ?_; try simp [h6, h1, h3, hx1, pairs, ints, q1, q2, boxes, Blk.isArr, KeepsBox.refl]) | (with_reducible refine And.intro ?_ ?_) | (with_reducible intro hg) | (clear hK' K'; omega)))
            | (with_reducible refine w_cond (fun A B hA hB => ?_); simp [h6, h1, h3, hx1, pairs, ints, q1, q2, boxes, Blk.isArr, KeepsBox.refl]; repeat' (first | (with_reducible refine hA ?_; clear hA hB A B) | (with_reducible refine hB ?_; clear hA hB A B) | (with_reducible refine And.intro ?_ ?_) | (with_reducible intro hc)))
            | (with_reducible refine awp_seq ?_))
          exact ⟨⟨k + 1, by omega, by simp, by simp [h1], by simp [h3, ints], rfl⟩, by simp; omega⟩
      · refine v_draw_perm mixed [] [124, 129, 133, 140, 142, 145] [0, 1, 2, 3, 4, 5, 6, 7, 8, 9, 11, 12, 13, 10, 14, 15, 16, 17, 18, 19, 20, 21, 22, 23, 24, 25, 26] (by kernel_rfl) (fun K hK => ?_)
        simp only [List.filterMap_cons, List.filterMap_nil, List.getElem?_cons_succ, List.getElem?_cons_zero]
        repeat' (first
          | (with_reducible refine awp_skip ?_)
          | (with_reducible refine then_any ?_)
          | (with_reducible refine then_ret ?_)
          | (with_reducible refine then_exit ?_)
          | (with_reducible refine inBlock_normal ?_)
          | (with_reducible refine inBlock_ret ?_)
          | (with_reducible refine inBlock_hit ?_)
          | (with_reducible refine inBlock_miss (by decide) ?_)
          | (with_reducible refine awp_ret ?_)
          | (with_reducible refine awp_exit ?_)
          | (with_reducible refine post_ret ?_)
          | (with_reducible refine post_normal ?_)
          | (with_reducible refine awp_block ?_)
          | (with_reducible refine awp_scope_ret ?_)
          | (with_reducible refine awp_label ?_)
          | (with_reducible refine v_reg [] (fun K hK => ?_))
          | (with_reducible refine v_reg1 [] (fun K hK => ?_))
          | (with_reducible refine v_draw mixed [] [124, 129, 133, 140, 142, 145] (by kernel_rfl) (fun K hK => ?_))
          | (with_reducible refine v_draw1 mixed [] [124, 129, 133, 140, 142, 145] (by kernel_rfl) (fun K hK => ?_))
          | (with_reducible refine ev_nil (hK _ _ ?_); clear hK K)
          | (with_reducible refine ed_nil (hK _ _ ?_); clear hK K)
          | ((first | with_reducible refine ev_cons (fun K' hK' => ?_) | with_reducible refine ed_cons (fun K' hK' => ?_) | (with_reducible refine ev_id ?_; refine ev_guard rfl (fun K' hK' => ?_)) | (with_reducible refine ed_id ?_; refine ed_guard rfl (fun K' hK' => ?_))); simp [h6, h1, h3, hx1, pairs, ints, q1, boxes, Blk.isArr, KeepsBox.refl]; repeat' (first | (with_reducible refine hK' _ _ ?_; clear hK' K') | (with_reducible refine And.intro ?_ ?_) | (with_reducible intro hg) | (clear hK' K'; omega)))
          | (with_reducible refine w_cond (fun A B hA hB => ?_); simp [h6, h1, h3, hx1, pairs, ints, q1, boxes, Blk.isArr, KeepsBox.refl]; repeat' (first | (with_reducible refine hA ?_; clear hA hB A B) | (with_reducible refine hB ?_; clear hA hB A B) | (with_reducible refine And.intro ?_ ?_) | (with_reducible intro hc)))
          | (with_reducible refine awp_seq ?_))
        exact ⟨⟨k + 1, by omega, by simp, by simp [h1], by simp [h3, ints], rfl⟩, by simp; omega⟩
    · have : k = M := by omega
      subst this
      repeat' (first
        | (with_reducible refine awp_skip ?_)
        | (with_reducible refine then_any ?_)
        | (with_reducible refine then_ret ?_)
        | (with_reducible refine then_exit ?_)
        | (with_reducible refine inBlock_normal ?_)
        | (with_reducible refine inBlock_ret ?_)
        | (with_reducible refine inBlock_hit ?_)
        | (with_reducible refine inBlock_miss (by decide) ?_)
        | (with_reducible refine awp_ret ?_)
        | (with_reducible refine awp_exit ?_)
        | (with_reducible refine post_ret ?_)
        | (with_reducible refine post_normal ?_)
        | (with_reducible refine awp_block ?_)
        | (with_reducible refine awp_scope_ret ?_)
        | (with_reducible refine awp_label ?_)
        | (with_reducible refine v_reg [] (fun K hK => ?_))
        | (with_reducible refine v_reg1 [] (fun K hK => ?_))
        | (with_reducible refine v_draw mixed [] [] (by kernel_rfl) (fun K hK => ?_))
        | (with_reducible refine v_draw1 mixed [] [] (by kernel_rfl) (fun K hK => ?_))
        | (with_reducible refine ev_nil (hK _ _ ?_); clear hK K)
        | (with_reducible refine ed_nil (hK _ _ ?_); clear hK K)
        | ((first | with_reducible refine ev_cons (fun K' hK' => ?_) | with_reducible refine ed_cons (fun K' hK' => ?_) | (with_reducible refine ev_id ?_; refine ev_guard rfl (fun K' hK' => ?_)) | (with_reducible refine ed_id ?_; refine ed_guard rfl (fun K' hK' => ?_))); simp [h6, h1, h3, hx1, pairs, ints, hmin, hpow, hN, IntKind.bits]; repeat' (first | (with_reducible refine hK' _ _ ?_; clear hK' K') | (with_reducible refine And.intro ?_ ?_) | (with_reducible intro hg) | (clear hK' K'; omega)))
        | (with_reducible refine w_cond (fun A B hA hB => ?_); simp [h6, h1, h3, hx1, pairs, ints, hmin, hpow, hN, IntKind.bits]; repeat' (first | (with_reducible refine hA ?_; clear hA hB A B) | (with_reducible refine hB ?_; clear hA hB A B) | (with_reducible refine And.intro ?_ ?_) | (with_reducible intro hc)))
        | (with_reducible refine awp_seq ?_))
      exact ⟨by simp, hsub⟩
end Go.Am
