/- Contracts: how many units come to a vertex (arcs). -/
import Derived.Test.YtkgcmgbndapjcaaW51
namespace Go.Am
open Go Go.Proofs
set_option linter.unusedVariables false
set_option linter.unusedSimpArgs false
variable {w0 : World}
attribute [local irreducible] AWP ACalls
attribute [local congr] acalls_congr

theorem FlowS.start (arcs : List (Int × Int)) (gone : Int → Bool) (root v : Int) : FlowS arcs gone (fun _ => false) root v 0 :=
  ⟨fun i h => (Bool.false_ne_true h).elim, fun u _ _ => by simp [exA, sum_zero], by simp [exA, sum_zero]⟩
theorem FlowS.next {arcs : List (Int × Int)} {gone full full' : Int → Bool} {root v : Int} {units : Nat} (h : FlowS arcs gone full root v units) (hv : v ≠ root)
    (e : ∀ u : Int, exA arcs full' u = exA arcs full u + b2i (decide (u = v)) - b2i (decide (u = root))) (r : ∀ i : Int, full' i = true → 0 ≤ i ∧ i < arcs.length ∧ gone i = false) : FlowS arcs gone full' root v (units + 1) where
  rng := r
  zero u h1 h2 := by rw [e u, h.zero u h1 h2]; simp [b2i, h1, h2]
  most := by rw [e v, h.most]; simp [b2i, hv]

def mh (H : Heap) (F G L n : Nat) (arcs : List (Int × Int)) (full : Int → Bool) : Heap :=
  upd (upd H L (some (.arr 1 4 (labB arcs.length full) arcs.length))) F (some (.box [I n, pairs arcs, .ref G 0 arcs.length arcs.length, .ref L 0 arcs.length arcs.length]))

set_option maxHeartbeats 4000000 in
theorem most_use {H : Heap} {G n enough : Nat} {arcs : List (Int × Int)} {gone : Int → Bool} {root v : Int} (N : NetA n arcs root) (hG : H G = some (.arr 1 4 (labB arcs.length gone) arcs.length))
    (hv : 0 ≤ v ∧ v < n) (hvr : v ≠ root) (he : enough ≤ 1000) {K : AV → Heap → Prop}
    (k : ∀ (units : Nat) full by' come, FlowS arcs gone full root v units → WkA arcs n gone full root by' come → (come v = false ∨ units = enough) → units ≤ enough → K (.tup [I units, .sl (labB n come) n]) H) :
    ACalls Try.prog w0 39 [I n, pairs arcs, .ref G 0 arcs.length arcs.length, I root, I v, I enough] H K := by
  refine (?_ : ACalls Try.prog w0 39 [I n, pairs arcs, .ref G 0 arcs.length arcs.length, I root, I v, I enough] H
    (fun x H' => ∃ (units : Nat) (full : Int → Bool) (by' : Int → Int) (come : Int → Bool), FlowS arcs gone full root v units ∧ WkA arcs n gone full root by' come ∧ (come v = false ∨ units = enough) ∧ units ≤ enough ∧ x = .tup [I units, .sl (labB n come) n] ∧ Sub H H')).drop ?_
  rotate_left
  · rintro x H' ⟨units, full, by', come, a, b, c, d, rfl, s⟩
    exact ⟨_, s, k units full by' come a b c d⟩
  clear k K
  have hm := N.mle
  refine w_enter Try.func39 rfl Try.ntmps39 (ts := [12, 13]) rfl (by simp) (by kernel_rfl) ?_
  repeat' (first
    | (with_reducible refine awp_skip ?_)
    | (with_reducible refine then_any ?_)
    | (with_reducible refine then_ret ?_)
    | (with_reducible refine then_exit ?_)
    | (with_reducible refine inBlock_normal ?_)
    | (with_reducible refine inBlock_ret ?_)
    | (with_reducible refine inBlock_hit ?_)
    | (with_reducible refine inBlock_miss (by decide) ?_)
    | (with_reducible refine awp_ret ?_)
    | (with_reducible refine awp_exit ?_)
    | (with_reducible refine post_ret ?_)
    | (with_reducible refine post_normal ?_)
    | (with_reducible refine awp_block ?_)
    | (with_reducible refine v_reg [] (fun K hK => ?_))
    | (with_reducible refine v_reg1 [] (fun K hK => ?_))
    | (with_reducible refine v_draw mixed [] [] (by kernel_rfl) (fun K hK => ?_))
    | (with_reducible refine v_draw1 mixed [] [] (by kernel_rfl) (fun K hK => ?_))
    | (with_reducible refine ev_nil (hK _ _ ?_); clear hK K)
    | (with_reducible refine ed_nil (hK _ _ ?_); clear hK K)
    | ((first | with_reducible refine ev_cons (fun K' hK' => ?_) | with_reducible refine ed_cons (fun K' hK' => ?_) | (with_reducible refine ev_id ?_; refine ev_guard rfl (fun K' hK' => ?_)) | (with_reducible refine ed_id ?_; refine ed_guard rfl (fun K' hK' => ?_))); simp [pairs]; repeat' (first | (with_reducible refine hK' _ _ ?_; clear hK' K') | (with_reducible refine And.intro ?_ ?_) | (with_reducible intro hg) | (clear hK' K'; omega)))
    | (with_reducible refine w_cond (fun A B hA hB => ?_); simp [pairs]; repeat' (first | (with_reducible refine hA ?_; clear hA hB A B) | (with_reducible refine hB ?_; clear hA hB A B) | (with_reducible refine And.intro ?_ ?_) | (with_reducible intro hc)))
    | (with_reducible refine awp_seq ?_))
  rename_i L hL F
  have hFL : F ≠ L := by rintro rfl; simp at hg
  have hF : H F = none := by rw [if_neg hFL] at hg; exact hg
  clear hg
  have hLG : L ≠ G := fun e => by rw [e, hG] at hL; cases hL
  have hFG : F ≠ G := fun e => by rw [e, hG] at hF; cases hF
  have fh : ∀ full, FlowH (mh H F G L n arcs full) F G L n arcs gone full := fun full =>
    ⟨hLG, by simp [mh], by simp only [mh]; rw [upd_ne _ _ _ (Ne.symm hFG), upd_ne _ _ _ (Ne.symm hLG)]; exact hG, by simp only [mh]; rw [upd_ne _ _ _ (Ne.symm hFL), upd_same]⟩
  have hset : ∀ full full', upd (mh H F G L n arcs full) L (some (.arr 1 4 (labB arcs.length full') arcs.length)) = mh H F G L n arcs full' := fun full full' => by
    unfold mh; rw [upd_comm _ _ _ hFL, upd_upd]
  have hsub : ∀ full, Sub H (mh H F G L n arcs full) := fun full => ((Sub.refl H).upd hL _).upd hF _
  refine awp_loop (fun env h => ∃ (units : Nat) (full : Int → Bool), units ≤ enough ∧ FlowS arcs gone full root v units ∧ env 15 = I units ∧ env 14 = .ptr F 0 0 ∧ env 3 = I root ∧ env 4 = I v ∧ env 5 = I enough ∧
    h = mh H F G L n arcs full) (fun env _ => enough - natA (env 15)) ?_ ?_
  · exact ⟨0, _, by omega, .start arcs gone root v, by simp, by simp, by simp, by simp, by simp, by simp [mh, ← labB_rep, pairs]⟩
  rintro env h ⟨units, full, hue, hf, h15, h14, h3, h4, h5, rfl⟩
  have hnat : natA (env 15) = units := by simp [h15]
  rw [hnat]; clear hnat
  have hwalk := fun K k => walk_use (w0 := w0) (K := K) N (fh full) k
  have hvn : v.toNat < n := by omega
  have cat : ∀ (g : Int → Bool) h, (labB n g)[v.toNat]'h = B (g v) := fun g h => labB_at hv.1 h
  have cln : ∀ g : Int → Bool, v.toNat < (labB n g).length := fun g => by rw [labB_length]; exact hvn
  have hsend := fun by' come (w : WkA arcs n gone full root by' come) (hc : come v = true) K k => send_use (w0 := w0) (K := K) N (fh full) w hc hf.rng k
  simp only [hset] at hsend
  repeat' (first
    | (with_reducible refine awp_skip ?_)
    | (with_reducible refine then_any ?_)
    | (with_reducible refine then_ret ?_)
    | (with_reducible refine then_exit ?_)
    | (with_reducible refine inBlock_normal ?_)
    | (with_reducible refine inBlock_ret ?_)
    | (with_reducible refine inBlock_hit ?_)
    | (with_reducible refine inBlock_miss (by decide) ?_)
    | (with_reducible refine awp_ret ?_)
    | (with_reducible refine awp_exit ?_)
    | (with_reducible refine post_ret ?_)
    | (with_reducible refine post_normal ?_)
    | (with_reducible refine awp_block ?_)
    | ((fail_if_success (with_reducible refine at_reg 5 ?_)); with_reducible refine v_reg [] (fun K hK => ?_))
    | (with_reducible refine v_reg1 [] (fun K hK => ?_))
    | ((fail_if_success (with_reducible refine at_reg 5 ?_)); with_reducible refine v_draw mixed [] [] (by kernel_rfl) (fun K hK => ?_))
    | (with_reducible refine v_draw1 mixed [] [] (by kernel_rfl) (fun K hK => ?_))
    | (with_reducible refine ev_nil (hK _ _ ?_); clear hK K)
    | (with_reducible refine ed_nil (hK _ _ ?_); clear hK K)
    | ((first | with_reducible refine ev_cons (fun K' hK' => ?_) | with_reducible refine ed_cons (fun K' hK' => ?_) | (with_reducible refine ev_id ?_; refine ev_guard rfl (fun K' hK' => ?_)) | (with_reducible refine ed_id ?_; refine ed_guard rfl (fun K' hK' => ?_))); simp [h15, h14, h3, h4, h5]; repeat' (first | (with_reducible refine hK' _ _ ?_; clear hK' K') | ((with_reducible refine hwalk _ (fun by' come hw => ?_)); try simp [h15, h14, h3, h4, h5]) | (with_reducible refine And.intro ?_ ?_) | (with_reducible intro hg) | (clear hK' K'; omega)))
    | (with_reducible refine w_cond (fun A B hA hB => ?_); simp [h15, h14, h3, h4, h5]; repeat' (first | (with_reducible refine hA ?_; clear hA hB A B) | (with_reducible refine hB ?_; clear hA hB A B) | (with_reducible refine And.intro ?_ ?_) | (with_reducible intro hc)))
    | ((fail_if_success (with_reducible refine at_reg 5 ?_)); with_reducible refine awp_seq ?_))
  cases hc : come v with
  | false =>
    repeat' (first
      | (with_reducible refine awp_skip ?_)
      | (with_reducible refine then_any ?_)
      | (with_reducible refine then_ret ?_)
      | (with_reducible refine then_exit ?_)
      | (with_reducible refine inBlock_normal ?_)
      | (with_reducible refine inBlock_ret ?_)
      | (with_reducible refine inBlock_hit ?_)
      | (with_reducible refine inBlock_miss (by decide) ?_)
      | (with_reducible refine awp_ret ?_)
      | (with_reducible refine awp_exit ?_)
      | (with_reducible refine post_ret ?_)
      | (with_reducible refine post_normal ?_)
      | (with_reducible refine awp_block ?_)
      | (with_reducible refine v_reg [] (fun K hK => ?_))
      | (with_reducible refine v_reg1 [] (fun K hK => ?_))
      | (with_reducible refine v_draw mixed [] [] (by kernel_rfl) (fun K hK => ?_))
      | (with_reducible refine v_draw1 mixed [] [] (by kernel_rfl) (fun K hK => ?_))
      | (with_reducible refine ev_nil (hK _ _ ?_); clear hK K)
      | (with_reducible refine ed_nil (hK _ _ ?_); clear hK K)
      | ((first | with_reducible refine ev_cons (fun K' hK' => ?_) | with_reducible refine ed_cons (fun K' hK' => ?_) | (with_reducible refine ev_id ?_; refine ev_guard rfl (fun K' hK' => ?_)) | (with_reducible refine ed_id ?_; refine ed_guard rfl (fun K' hK' => ?_))); simp [h15, h14, h3, h4, h5, cat, cln, hv.1, hvn, labB_length, hc]; repeat' (first | (with_reducible refine hK' _ _ ?_; clear hK' K') | (with_reducible refine And.intro ?_ ?_) | (with_reducible intro hg) | (clear hK' K'; omega)))
      | (with_reducible refine w_cond (fun A B hA hB => ?_); simp [h15, h14, h3, h4, h5, cat, cln, hv.1, hvn, labB_length, hc]; repeat' (first | (with_reducible refine hA ?_; clear hA hB A B) | (with_reducible refine hB ?_; clear hA hB A B) | (with_reducible refine And.intro ?_ ?_) | (with_reducible intro hc)))
      | (with_reducible refine awp_seq ?_))
    exact ⟨units, full, by', come, hf, hw, .inl hc, hue, by simp, hsub _⟩
  | true =>
    by_cases hue2 : units = enough
    · subst hue2
      repeat' (first
        | (with_reducible refine awp_skip ?_)
        | (with_reducible refine then_any ?_)
        | (with_reducible refine then_ret ?_)
        | (with_reducible refine then_exit ?_)
        | (with_reducible refine inBlock_normal ?_)
        | (with_reducible refine inBlock_ret ?_)
        | (with_reducible refine inBlock_hit ?_)
        | (with_reducible refine inBlock_miss (by decide) ?_)
        | (with_reducible refine awp_ret ?_)
        | (with_reducible refine awp_exit ?_)
        | (with_reducible refine post_ret ?_)
        | (with_reducible refine post_normal ?_)
        | (with_reducible refine awp_block ?_)
        | (with_reducible refine v_reg [] (fun K hK => ?_))
        | (with_reducible refine v_reg1 [] (fun K hK => ?_))
        | (with_reducible refine v_draw mixed [] [] (by kernel_rfl) (fun K hK => ?_))
        | (with_reducible refine v_draw1 mixed [] [] (by kernel_rfl) (fun K hK => ?_))
        | (with_reducible refine ev_nil (hK _ _ ?_); clear hK K)
        | (with_reducible refine ed_nil (hK _ _ ?_); clear hK K)
        | ((first | with_reducible refine ev_cons (fun K' hK' => ?_) | with_reducible refine ed_cons (fun K' hK' => ?_) | (with_reducible refine ev_id ?_; refine ev_guard rfl (fun K' hK' => ?_)) | (with_reducible refine ed_id ?_; refine ed_guard rfl (fun K' hK' => ?_))); simp [h15, h14, h3, h4, h5, cat, cln, hv.1, hvn, labB_length, hc]; repeat' (first | (with_reducible refine hK' _ _ ?_; clear hK' K') | (with_reducible refine And.intro ?_ ?_) | (with_reducible intro hg) | (clear hK' K'; omega)))
        | (with_reducible refine w_cond (fun A B hA hB => ?_); simp [h15, h14, h3, h4, h5, cat, cln, hv.1, hvn, labB_length, hc]; repeat' (first | (with_reducible refine hA ?_; clear hA hB A B) | (with_reducible refine hB ?_; clear hA hB A B) | (with_reducible refine And.intro ?_ ?_) | (with_reducible intro hc)))
        | (with_reducible refine awp_seq ?_))
      exact ⟨units, full, by', come, hf, hw, .inr rfl, hue, by simp, hsub _⟩
    · have hue3 : ((units : Int) = enough) = False := by simp; omega
      repeat' (first
        | (with_reducible refine awp_skip ?_)
        | (with_reducible refine then_any ?_)
        | (with_reducible refine then_ret ?_)
        | (with_reducible refine then_exit ?_)
        | (with_reducible refine inBlock_normal ?_)
        | (with_reducible refine inBlock_ret ?_)
        | (with_reducible refine inBlock_hit ?_)
        | (with_reducible refine inBlock_miss (by decide) ?_)
        | (with_reducible refine awp_ret ?_)
        | (with_reducible refine awp_exit ?_)
        | (with_reducible refine post_ret ?_)
        | (with_reducible refine post_normal ?_)
        | (with_reducible refine awp_block ?_)
        | (with_reducible refine v_reg [] (fun K hK => ?_))
        | (with_reducible refine v_reg1 [] (fun K hK => ?_))
        | (with_reducible refine v_draw mixed [] [] (by kernel_rfl) (fun K hK => ?_))
        | (with_reducible refine v_draw1 mixed [] [] (by kernel_rfl) (fun K hK => ?_))
        | (with_reducible refine ev_nil (hK _ _ ?_); clear hK K)
        | (with_reducible refine ed_nil (hK _ _ ?_); clear hK K)
        | ((first | with_reducible refine ev_cons (fun K' hK' => ?_) | with_reducible refine ed_cons (fun K' hK' => ?_) | (with_reducible refine ev_id ?_; refine ev_guard rfl (fun K' hK' => ?_)) | (with_reducible refine ed_id ?_; refine ed_guard rfl (fun K' hK' => ?_))); simp [h15, h14, h3, h4, h5, cat, cln, hv.1, hvn, labB_length, hc, hue3]; repeat' (first | (with_reducible refine hK' _ _ ?_; clear hK' K') | ((with_reducible refine hsend _ _ hw hc _ (fun x full' e' r' => ?_)); try simp [h15, h14, h3, h4, h5, cat, cln, hv.1, hvn, labB_length, hc, hue3]) | (with_reducible refine And.intro ?_ ?_) | (with_reducible intro hg) | (clear hK' K'; omega)))
        | (with_reducible refine w_cond (fun A B hA hB => ?_); simp [h15, h14, h3, h4, h5, cat, cln, hv.1, hvn, labB_length, hc, hue3]; repeat' (first | (with_reducible refine hA ?_; clear hA hB A B) | (with_reducible refine hB ?_; clear hA hB A B) | (with_reducible refine And.intro ?_ ?_) | (with_reducible intro hc)))
        | (with_reducible refine awp_seq ?_))
      exact ⟨⟨units + 1, full', by omega, hf.next hvr e' r', by simp, by simp [h14], by simp [h3], by simp [h4], by simp [h5], rfl⟩, by simp; omega⟩
end Go.Am
