/- Contracts: units are sent (arcs). -/
import Derived.Test.YtkgcmgbndapjcaaW50
namespace Go.Am
open Go Go.Proofs
set_option linter.unusedVariables false
set_option linter.unusedSimpArgs false
variable {w0 : World}
attribute [local irreducible] AWP ACalls
attribute [local congr] acalls_congr

theorem FlowH.lf {H : Heap} {F G L n : Nat} {arcs : List (Int × Int)} {gone full : Int → Bool} (fh : FlowH H F G L n arcs gone full) : L ≠ F := fun e => by
  have := fh.hL
  rw [e, fh.hF] at this
  cases this
theorem FlowH.set {H : Heap} {F G L n : Nat} {arcs : List (Int × Int)} {gone full : Int → Bool} (fh : FlowH H F G L n arcs gone full) (full' : Int → Bool) :
    FlowH (upd H L (some (.arr 1 4 (labB arcs.length full') arcs.length))) F G L n arcs gone full' :=
  ⟨fh.lg, by rw [upd_ne _ _ _ (Ne.symm fh.lf)]; exact fh.hF, by rw [upd_ne _ _ _ (Ne.symm fh.lg)]; exact fh.hG, upd_same _ _ _⟩

theorem arcs_at {arcs : List (Int × Int)} {i : Nat} (h : i < arcs.length) : (∀ h', (arcs.flatMap fun e => [I e.1, I e.2])[i * 2]'h' = I (tlA arcs i)) ∧ ∀ h', (arcs.flatMap fun e => [I e.1, I e.2])[i * 2 + 1]'h' = I (hdA arcs i) := by
  have hp := pairs_get h
  rw [tlA_get h, hdA_get h] at hp
  exact ⟨fun h' => by have := hp.1; rw [List.getElem?_eq_getElem h'] at this; simpa using this, fun h' => by have := hp.2.1; rw [List.getElem?_eq_getElem h'] at this; simpa using this⟩

set_option maxHeartbeats 4000000 in
theorem send_use {H : Heap} {F G L n : Nat} {arcs : List (Int × Int)} {gone full : Int → Bool} {root v : Int} {by' : Int → Int} {come : Int → Bool} (N : NetA n arcs root) (fh : FlowH H F G L n arcs gone full)
    (w : WkA arcs n gone full root by' come) (hc : come v = true) (hr : ∀ i : Int, full i = true → 0 ≤ i ∧ i < arcs.length ∧ gone i = false) {K : AV → Heap → Prop}
    (k : ∀ x full', (∀ u : Int, exA arcs full' u = exA arcs full u + b2i (decide (u = v)) - b2i (decide (u = root))) → (∀ i : Int, full' i = true → 0 ≤ i ∧ i < arcs.length ∧ gone i = false) →
      K x (upd H L (some (.arr 1 4 (labB arcs.length full') arcs.length)))) : ACalls Try.prog w0 58 [.ptr F 0 0, .sl (labI n by') n, I root, I v] H K := by
  obtain ⟨rank, hb⟩ := w.back
  have hm := N.mle
  refine w_enter Try.func58 rfl Try.ntmps58 (ts := []) rfl (by simp) (by kernel_rfl) ?_
  repeat' (first
    | (with_reducible refine awp_skip ?_)
    | (with_reducible refine then_any ?_)
    | (with_reducible refine then_ret ?_)
    | (with_reducible refine then_exit ?_)
    | (with_reducible refine inBlock_normal ?_)
    | (with_reducible refine inBlock_ret ?_)
    | (with_reducible refine inBlock_hit ?_)
    | (with_reducible refine inBlock_miss (by decide) ?_)
    | (with_reducible refine awp_ret ?_)
    | (with_reducible refine awp_exit ?_)
    | (with_reducible refine post_ret ?_)
    | (with_reducible refine post_normal ?_)
    | (with_reducible refine awp_block ?_)
    | (with_reducible refine v_reg [] (fun K hK => ?_))
    | (with_reducible refine v_reg1 [] (fun K hK => ?_))
    | (with_reducible refine v_draw mixed [] [] (by kernel_rfl) (fun K hK => ?_))
    | (with_reducible refine v_draw1 mixed [] [] (by kernel_rfl) (fun K hK => ?_))
    | (with_reducible refine ev_nil (hK _ _ ?_); clear hK K)
    | (with_reducible refine ed_nil (hK _ _ ?_); clear hK K)
    | ((first | with_reducible refine ev_cons (fun K' hK' => ?_) | with_reducible refine ed_cons (fun K' hK' => ?_) | (with_reducible refine ev_id ?_; refine ev_guard rfl (fun K' hK' => ?_)) | (with_reducible refine ed_id ?_; refine ed_guard rfl (fun K' hK' => ?_))); simp; repeat' (first | (with_reducible refine hK' _ _ ?_; clear hK' K') | (with_reducible refine And.intro ?_ ?_) | (with_reducible intro hg) | (clear hK' K'; omega)))
    | (with_reducible refine w_cond (fun A B hA hB => ?_); simp; repeat' (first | (with_reducible refine hA ?_; clear hA hB A B) | (with_reducible refine hB ?_; clear hA hB A B) | (with_reducible refine And.intro ?_ ?_) | (with_reducible intro hc)))
    | (with_reducible refine awp_seq ?_))
  refine awp_loop_g (fun m env h => ∃ (full' : Int → Bool) (v' : Int), SendI arcs gone full full' root by' come rank v v' ∧ m = rank v' ∧ env 0 = .ptr F 0 0 ∧ env 1 = .sl (labI n by') n ∧ env 2 = I root ∧ env 3 = I v' ∧
    h = upd H L (some (.arr 1 4 (labB arcs.length full') arcs.length))) ?_ ?_
  · exact ⟨_, full, v, .start hr hc, rfl, by simp, by simp, by simp, by simp, by rw [← fh.hL, upd_self]⟩
  rintro m env h ⟨full', v', hS, hm', h0, h1, h2, h3, rfl⟩
  have fh' := fh.set full'
  generalize hH' : upd H L (some (.arr 1 4 (labB arcs.length full') arcs.length)) = H' at *
  by_cases hv : v' = root
  · subst hv
    repeat' (first
      | (with_reducible refine awp_skip ?_)
      | (with_reducible refine then_any ?_)
      | (with_reducible refine then_ret ?_)
      | (with_reducible refine then_exit ?_)
      | (with_reducible refine inBlock_normal ?_)
      | (with_reducible refine inBlock_ret ?_)
      | (with_reducible refine inBlock_hit ?_)
      | (with_reducible refine inBlock_miss (by decide) ?_)
      | (with_reducible refine awp_ret ?_)
      | (with_reducible refine awp_exit ?_)
      | (with_reducible refine post_ret ?_)
      | (with_reducible refine post_normal ?_)
      | (with_reducible refine awp_block ?_)
      | (with_reducible refine v_reg [] (fun K hK => ?_))
      | (with_reducible refine v_reg1 [] (fun K hK => ?_))
      | (with_reducible refine v_draw mixed [] [] (by kernel_rfl) (fun K hK => ?_))
      | (with_reducible refine v_draw1 mixed [] [] (by kernel_rfl) (fun K hK => ?_))
      | (with_reducible refine ev_nil (hK _ _ ?_); clear hK K)
      | (with_reducible refine ed_nil (hK _ _ ?_); clear hK K)
      | ((first | with_reducible refine ev_cons (fun K' hK' => ?_) | with_reducible refine ed_cons (fun K' hK' => ?_) | (with_reducible refine ev_id ?_; refine ev_guard rfl (fun K' hK' => ?_)) | (with_reducible refine ed_id ?_; refine ed_guard rfl (fun K' hK' => ?_))); simp [h0, h1, h2, h3]; repeat' (first | (with_reducible refine hK' _ _ ?_; clear hK' K') | (with_reducible refine And.intro ?_ ?_) | (with_reducible intro hg) | (clear hK' K'; omega)))
      | (with_reducible refine w_cond (fun A B hA hB => ?_); simp [h0, h1, h2, h3]; repeat' (first | (with_reducible refine hA ?_; clear hA hB A B) | (with_reducible refine hB ?_; clear hA hB A B) | (with_reducible refine And.intro ?_ ?_) | (with_reducible intro hc)))
      | (with_reducible refine awp_seq ?_))
    rw [← hH']
    exact k _ full' hS.ex hS.rng
  · obtain ⟨hgo, hlt⟩ := hS.go hb hv
    obtain ⟨a0, a1, a2, a3, a4, a5⟩ := hb v' hS.at' hv
    have hsame := hS.same v' hS.at' hv (Nat.le_refl _)
    have hvr := w.rng v' hS.at'
    have hvn : v'.toNat < n := by omega
    have hby : ∀ h, (labI n by')[v'.toNat]'h = I (by' v') := fun h => labI_at hvr.1 h
    have hbl : v'.toNat < (labI n by').length := by rw [labI_length]; exact hvn
    obtain ⟨i, hi⟩ : ∃ i : Nat, by' v' = i := Int.eq_ofNat_of_zero_le a0
    have hil : i < arcs.length := by omega
    have hp := arcs_at hil
    have hp3 : i * 2 + 1 < arcs.length * 2 := by omega
    have lat : ∀ (g : Int → Bool) h, (labB arcs.length g)[i]'h = B (g i) := fun g h => by
      have := labB_at (n := arcs.length) (s := g) (x := (i : Int)) (by omega) (by simpa using h)
      simpa using this
    have ljl : ∀ g : Int → Bool, i < (labB arcs.length g).length := fun g => by rw [labB_length]; exact hil
    have hset : ∀ x, upd H' L (some (.arr 1 4 ((labB arcs.length full').set i (B x)) arcs.length)) = upd H L (some (.arr 1 4 (labB arcs.length (setF full' i x)) arcs.length)) := fun x => by
      rw [← hH', upd_upd]
      have := labB_set (n := arcs.length) (s := full') (w := (i : Int)) (x := x) (by omega)
      rw [show ((i : Int)).toNat = i by omega] at this
      rw [this]
    have hfr : frA arcs full i = if full' i then hdA arcs i else tlA arcs i := by rw [hi] at hsame; unfold frA; rw [hsame]
    rw [hi] at hgo hlt
    cases hf : full' i
    · rw [hf] at hfr hgo
      simp only [Bool.false_eq_true, if_false] at hfr
      simp only [Bool.not_false] at hgo
      repeat' (first
        | (with_reducible refine awp_skip ?_)
        | (with_reducible refine then_any ?_)
        | (with_reducible refine then_ret ?_)
        | (with_reducible refine then_exit ?_)
        | (with_reducible refine inBlock_normal ?_)
        | (with_reducible refine inBlock_ret ?_)
        | (with_reducible refine inBlock_hit ?_)
        | (with_reducible refine inBlock_miss (by decide) ?_)
        | (with_reducible refine awp_ret ?_)
        | (with_reducible refine awp_exit ?_)
        | (with_reducible refine post_ret ?_)
        | (with_reducible refine post_normal ?_)
        | (with_reducible refine awp_block ?_)
        | (with_reducible refine v_reg [] (fun K hK => ?_))
        | (with_reducible refine v_reg1 [] (fun K hK => ?_))
        | (with_reducible refine v_draw mixed [] [] (by kernel_rfl) (fun K hK => ?_))
        | (with_reducible refine v_draw1 mixed [] [] (by kernel_rfl) (fun K hK => ?_))
        | (with_reducible refine ev_nil (hK _ _ ?_); clear hK K)
        | (with_reducible refine ed_nil (hK _ _ ?_); clear hK K)
        | ((first | with_reducible refine ev_cons (fun K' hK' => ?_) | with_reducible refine ed_cons (fun K' hK' => ?_) | (with_reducible refine ev_id ?_; refine ev_guard rfl (fun K' hK' => ?_)) | (with_reducible refine ed_id ?_; refine ed_guard rfl (fun K' hK' => ?_))); simp [h0, h1, h2, h3, hv, hby, hbl, hvr.1, hvn, hi, fh'.hF, fh'.hL, pairs, pairs_len, sum2, hp.1, hp.2, hp3, hil, lat, ljl, labB_length, hf, hset]; repeat' (first | (with_reducible refine hK' _ _ ?_; clear hK' K') | (with_reducible refine And.intro ?_ ?_) | (with_reducible intro hg) | (clear hK' K'; omega)))
        | (with_reducible refine w_cond (fun A B hA hB => ?_); simp [h0, h1, h2, h3, hv, hby, hbl, hvr.1, hvn, hi, fh'.hF, fh'.hL, pairs, pairs_len, sum2, hp.1, hp.2, hp3, hil, lat, ljl, labB_length, hf, hset]; repeat' (first | (with_reducible refine hA ?_; clear hA hB A B) | (with_reducible refine hB ?_; clear hA hB A B) | (with_reducible refine And.intro ?_ ?_) | (with_reducible intro hc)))
        | (with_reducible refine awp_seq ?_))
      exact ⟨_, by omega, _, _, hgo, rfl, by simp [h0], by simp [h1], by simp [h2], by simp [hfr], rfl⟩
    · rw [hf] at hfr hgo
      simp only [if_true] at hfr
      simp only [Bool.not_true] at hgo
      repeat' (first
        | (with_reducible refine awp_skip ?_)
        | (with_reducible refine then_any ?_)
        | (with_reducible refine then_ret ?_)
        | (with_reducible refine then_exit ?_)
        | (with_reducible refine inBlock_normal ?_)
        | (with_reducible refine inBlock_ret ?_)
        | (with_reducible refine inBlock_hit ?_)
        | (with_reducible refine inBlock_miss (by decide) ?_)
        | (with_reducible refine awp_ret ?_)
        | (with_reducible refine awp_exit ?_)
        | (with_reducible refine post_ret ?_)
        | (with_reducible refine post_normal ?_)
        | (with_reducible refine awp_block ?_)
        | (with_reducible refine v_reg [] (fun K hK => ?_))
        | (with_reducible refine v_reg1 [] (fun K hK => ?_))
        | (with_reducible refine v_draw mixed [] [] (by kernel_rfl) (fun K hK => ?_))
        | (with_reducible refine v_draw1 mixed [] [] (by kernel_rfl) (fun K hK => ?_))
        | (with_reducible refine ev_nil (hK _ _ ?_); clear hK K)
        | (with_reducible refine ed_nil (hK _ _ ?_); clear hK K)
        | ((first | with_reducible refine ev_cons (fun K' hK' => ?_) | with_reducible refine ed_cons (fun K' hK' => ?_) | (with_reducible refine ev_id ?_; refine ev_guard rfl (fun K' hK' => ?_)) | (with_reducible refine ed_id ?_; refine ed_guard rfl (fun K' hK' => ?_))); simp [h0, h1, h2, h3, hv, hby, hbl, hvr.1, hvn, hi, fh'.hF, fh'.hL, pairs, pairs_len, sum2, hp.1, hp.2, hp3, hil, lat, ljl, labB_length, hf, hset]; repeat' (first | (with_reducible refine hK' _ _ ?_; clear hK' K') | (with_reducible refine And.intro ?_ ?_) | (with_reducible intro hg) | (clear hK' K'; omega)))
        | (with_reducible refine w_cond (fun A B hA hB => ?_); simp [h0, h1, h2, h3, hv, hby, hbl, hvr.1, hvn, hi, fh'.hF, fh'.hL, pairs, pairs_len, sum2, hp.1, hp.2, hp3, hil, lat, ljl, labB_length, hf, hset]; repeat' (first | (with_reducible refine hA ?_; clear hA hB A B) | (with_reducible refine hB ?_; clear hA hB A B) | (with_reducible refine And.intro ?_ ?_) | (with_reducible intro hc)))
        | (with_reducible refine awp_seq ?_))
      exact ⟨_, by omega, _, _, hgo, rfl, by simp [h0], by simp [h1], by simp [h2], by simp [hfr], rfl⟩
end Go.Am
