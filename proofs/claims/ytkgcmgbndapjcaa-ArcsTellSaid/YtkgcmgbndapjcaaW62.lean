/- Contracts: the fixed calls of chapter 20; are two lists of lists the same, is a list a set. -/
import Derived.Test.YtkgcmgbndapjcaaW61
import Derived.Test.YtkgcmgbndapjcaaM20
namespace Go.Am
open Go Go.Proofs
set_option linter.unusedVariables false
set_option linter.unusedSimpArgs false
variable {w0 : World}
attribute [local irreducible] AWP ACalls
attribute [local congr] acalls_congr

theorem lists13_ret {a b : List (List Int)} (ha : okLen a) (hb : okLen b) (hia : ∀ p ∈ a, okLen p) (hib : ∀ p ∈ b, okLen p) : Ret Try.prog w0 18 [rows a, rows b] (B (decide (a = b))) := by
  intro H
  refine w_enter Try.func18 rfl Try.ntmps18 (ts := [4]) rfl (by simp) (by kernel_rfl) ?_
  repeat' (first
    | (with_reducible refine awp_skip ?_)
    | (with_reducible refine then_any ?_)
    | (with_reducible refine then_ret ?_)
    | (with_reducible refine then_exit ?_)
    | (with_reducible refine inBlock_normal ?_)
    | (with_reducible refine inBlock_ret ?_)
    | (with_reducible refine inBlock_hit ?_)
    | (with_reducible refine inBlock_miss (by decide) ?_)
    | (with_reducible refine awp_ret ?_)
    | (with_reducible refine awp_exit ?_)
    | (with_reducible refine post_ret ?_)
    | (with_reducible refine post_normal ?_)
    | (with_reducible refine awp_block ?_)
    | (with_reducible refine awp_scope_ret ?_)
    | (with_reducible refine awp_label ?_)
    | (with_reducible refine v_reg [] (fun K hK => ?_))
    | (with_reducible refine v_reg1 [] (fun K hK => ?_))
    | (with_reducible refine v_draw mixed [] [] (by kernel_rfl) (fun K hK => ?_))
    | (with_reducible refine v_draw1 mixed [] [] (by kernel_rfl) (fun K hK => ?_))
    | (with_reducible refine ev_nil (hK _ _ ?_); clear hK K)
    | (with_reducible refine ed_nil (hK _ _ ?_); clear hK K)
    | ((first | with_reducible refine ev_cons (fun K' hK' => ?_) | with_reducible refine ed_cons (fun K' hK' => ?_) | (with_reducible refine ev_id ?_; refine ev_guard rfl (fun K' hK' => ?_)) | (with_reducible refine ed_id ?_; refine ed_guard rfl (fun K' hK' => ?_))); simp [rows]; repeat' (first | (with_reducible refine hK' _ _ ?_; clear hK' K') | (with_reducible refine And.intro ?_ ?_) | (with_reducible intro hg) | (clear hK' K'; omega)))
    | (with_reducible refine w_cond (fun A B hA hB => ?_); simp [rows]; repeat' (first | (with_reducible refine hA ?_; clear hA hB A B) | (with_reducible refine hB ?_; clear hA hB A B) | (with_reducible refine And.intro ?_ ?_) | (with_reducible intro hc)))
    | (with_reducible refine awp_seq ?_))
  · have : a ≠ b := fun e => by subst e; simp at hc
    simp [this]
  refine awp_loop (fun env h => ∃ (k : Nat), k ≤ a.length ∧ a.length = b.length ∧ env 5 = I k ∧ env 0 = rows a ∧ env 1 = rows b ∧ a.take k = b.take k ∧ h = H) (fun env _ => a.length - natA (env 5)) ?_ ?_
  · exact ⟨0, by omega, by omega, by simp, by simp [rows], by simp [rows], by simp, rfl⟩
  rintro env h ⟨n, hn, hab, h5, h0, h1, ht, rfl⟩
  have hnat : natA (env 5) = n := by simp [h5]
  rw [hnat]; clear hnat
  by_cases hlt : n < a.length
  · have hltb : n < b.length := by omega
    have hpa := hia a[n] (by simp)
    have hpb := hib b[n] (by simp)
    repeat' (first
      | (with_reducible refine awp_skip ?_)
      | (with_reducible refine then_any ?_)
      | (with_reducible refine then_ret ?_)
      | (with_reducible refine then_exit ?_)
      | (with_reducible refine inBlock_normal ?_)
      | (with_reducible refine inBlock_ret ?_)
      | (with_reducible refine inBlock_hit ?_)
      | (with_reducible refine inBlock_miss (by decide) ?_)
      | (with_reducible refine awp_ret ?_)
      | (with_reducible refine awp_exit ?_)
      | (with_reducible refine post_ret ?_)
      | (with_reducible refine post_normal ?_)
      | (with_reducible refine awp_block ?_)
      | (with_reducible refine awp_scope_ret ?_)
      | (with_reducible refine awp_label ?_)
      | (with_reducible refine v_reg [] (fun K hK => ?_))
      | (with_reducible refine v_reg1 [] (fun K hK => ?_))
      | (with_reducible refine v_draw mixed [] [] (by kernel_rfl) (fun K hK => ?_))
      | (with_reducible refine v_draw1 mixed [] [] (by kernel_rfl) (fun K hK => ?_))
      | (with_reducible refine ev_nil (hK _ _ ?_); clear hK K)
      | (with_reducible refine ed_nil (hK _ _ ?_); clear hK K)
      | ((first | with_reducible refine ev_cons (fun K' hK' => ?_) | with_reducible refine ed_cons (fun K' hK' => ?_) | (with_reducible refine ev_id ?_; refine ev_guard rfl (fun K' hK' => ?_)) | (with_reducible refine ed_id ?_; refine ed_guard rfl (fun K' hK' => ?_))); simp [h5, h0, h1, rows, ints, hlt, hltb]; repeat' (first | (with_reducible refine hK' _ _ ?_; clear hK' K') | (with_reducible refine And.intro ?_ ?_) | (with_reducible intro hg) | (clear hK' K'; omega)))
      | (with_reducible refine w_cond (fun A B hA hB => ?_); simp [h5, h0, h1, rows, ints, hlt, hltb]; repeat' (first | (with_reducible refine hA ?_; clear hA hB A B) | (with_reducible refine hB ?_; clear hA hB A B) | (with_reducible refine And.intro ?_ ?_) | (with_reducible intro hc)))
      | (with_reducible refine awp_seq ?_))
    · have : a ≠ b := fun e => by subst e; simp at hc
      simp [this]
    refine awp_loop (fun env h' => ∃ (k : Nat), k ≤ a[n].length ∧ a[n].length = b[n].length ∧ env 6 = I k ∧ env 5 = I n ∧ env 0 = rows a ∧ env 1 = rows b ∧ a[n].take k = b[n].take k ∧ h' = h) (fun env _ => a[n].length - natA (env 6)) ?_ ?_
    · exact ⟨0, by omega, by omega, by simp, by simp [h5], by simp [h0], by simp [h1], by simp, rfl⟩
    clear h5 h0 h1
    rintro env1 h1 ⟨k, hk, hl, h6, h5, h0, h1, htk, rfl⟩
    have hnat : natA (env1 6) = k := by simp [h6]
    rw [hnat]; clear hnat
    by_cases hltk : k < a[n].length
    · have hltkb : k < b[n].length := by omega
      repeat' (first
        | (with_reducible refine awp_skip ?_)
        | (with_reducible refine then_any ?_)
        | (with_reducible refine then_ret ?_)
        | (with_reducible refine then_exit ?_)
        | (with_reducible refine inBlock_normal ?_)
        | (with_reducible refine inBlock_ret ?_)
        | (with_reducible refine inBlock_hit ?_)
        | (with_reducible refine inBlock_miss (by decide) ?_)
        | (with_reducible refine awp_ret ?_)
        | (with_reducible refine awp_exit ?_)
        | (with_reducible refine post_ret ?_)
        | (with_reducible refine post_normal ?_)
        | (with_reducible refine awp_block ?_)
        | (with_reducible refine awp_scope_ret ?_)
        | (with_reducible refine awp_label ?_)
        | (with_reducible refine v_reg [] (fun K hK => ?_))
        | (with_reducible refine v_reg1 [] (fun K hK => ?_))
        | (with_reducible refine v_draw mixed [] [] (by kernel_rfl) (fun K hK => ?_))
        | (with_reducible refine v_draw1 mixed [] [] (by kernel_rfl) (fun K hK => ?_))
        | (with_reducible refine ev_nil (hK _ _ ?_); clear hK K)
        | (with_reducible refine ed_nil (hK _ _ ?_); clear hK K)
        | ((first | with_reducible refine ev_cons (fun K' hK' => ?_) | with_reducible refine ed_cons (fun K' hK' => ?_) | (with_reducible refine ev_id ?_; refine ev_guard rfl (fun K' hK' => ?_)) | (with_reducible refine ed_id ?_; refine ed_guard rfl (fun K' hK' => ?_))); simp [h5, h6, h0, h1, rows, ints, hlt, hltb, hltk, hltkb]; repeat' (first | (with_reducible refine hK' _ _ ?_; clear hK' K') | (with_reducible refine And.intro ?_ ?_) | (with_reducible intro hg) | (clear hK' K'; omega)))
        | (with_reducible refine w_cond (fun A B hA hB => ?_); simp [h5, h6, h0, h1, rows, ints, hlt, hltb, hltk, hltkb]; repeat' (first | (with_reducible refine hA ?_; clear hA hB A B) | (with_reducible refine hB ?_; clear hA hB A B) | (with_reducible refine And.intro ?_ ?_) | (with_reducible intro hc)))
        | (with_reducible refine awp_seq ?_))
      · have : a ≠ b := fun e => by subst e; simp at hc
        simp [this]
      · have hc' : a[n][k] = b[n][k] := by simpa using hc
        have ht' : a[n].take (k + 1) = b[n].take (k + 1) := by rw [List.take_succ_eq_append_getElem hltk, List.take_succ_eq_append_getElem hltkb, htk, hc']
        exact ⟨⟨k + 1, by omega, hl, by simp, by simp [h5], by simp [h0], by simp [h1], ht', rfl⟩, by simp; omega⟩
    · have : k = a[n].length := by omega
      repeat' (first
        | (with_reducible refine awp_skip ?_)
        | (with_reducible refine then_any ?_)
        | (with_reducible refine then_ret ?_)
        | (with_reducible refine then_exit ?_)
        | (with_reducible refine inBlock_normal ?_)
        | (with_reducible refine inBlock_ret ?_)
        | (with_reducible refine inBlock_hit ?_)
        | (with_reducible refine inBlock_miss (by decide) ?_)
        | (with_reducible refine awp_ret ?_)
        | (with_reducible refine awp_exit ?_)
        | (with_reducible refine post_ret ?_)
        | (with_reducible refine post_normal ?_)
        | (with_reducible refine awp_block ?_)
        | (with_reducible refine awp_scope_ret ?_)
        | (with_reducible refine awp_label ?_)
        | (with_reducible refine v_reg [] (fun K hK => ?_))
        | (with_reducible refine v_reg1 [] (fun K hK => ?_))
        | (with_reducible refine v_draw mixed [] [] (by kernel_rfl) (fun K hK => ?_))
        | (with_reducible refine v_draw1 mixed [] [] (by kernel_rfl) (fun K hK => ?_))
        | (with_reducible refine ev_nil (hK _ _ ?_); clear hK K)
        | (with_reducible refine ed_nil (hK _ _ ?_); clear hK K)
        | ((first | with_reducible refine ev_cons (fun K' hK' => ?_) | with_reducible refine ed_cons (fun K' hK' => ?_) | (with_reducible refine ev_id ?_; refine ev_guard rfl (fun K' hK' => ?_)) | (with_reducible refine ed_id ?_; refine ed_guard rfl (fun K' hK' => ?_))); simp [h5, h6, h0, h1, rows, ints, hlt, hltb, hltk]; repeat' (first | (with_reducible refine hK' _ _ ?_; clear hK' K') | (with_reducible refine And.intro ?_ ?_) | (with_reducible intro hg) | (clear hK' K'; omega)))
        | (with_reducible refine w_cond (fun A B hA hB => ?_); simp [h5, h6, h0, h1, rows, ints, hlt, hltb, hltk]; repeat' (first | (with_reducible refine hA ?_; clear hA hB A B) | (with_reducible refine hB ?_; clear hA hB A B) | (with_reducible refine And.intro ?_ ?_) | (with_reducible intro hc)))
        | (with_reducible refine awp_seq ?_))
      have he : a[n] = b[n] := by rw [List.take_of_length_le (by omega), List.take_of_length_le (by omega)] at htk; exact htk
      have ht' : a.take (n + 1) = b.take (n + 1) := by rw [List.take_succ_eq_append_getElem hlt, List.take_succ_eq_append_getElem hltb, ht, he]
      exact ⟨⟨n + 1, by omega, hab, by simp, by simp [h0], by simp [h1], ht', rfl⟩, by simp; omega⟩
  · have : n = a.length := by omega
    subst this
    repeat' (first
      | (with_reducible refine awp_skip ?_)
      | (with_reducible refine then_any ?_)
      | (with_reducible refine then_ret ?_)
      | (with_reducible refine then_exit ?_)
      | (with_reducible refine inBlock_normal ?_)
      | (with_reducible refine inBlock_ret ?_)
      | (with_reducible refine inBlock_hit ?_)
      | (with_reducible refine inBlock_miss (by decide) ?_)
      | (with_reducible refine awp_ret ?_)
      | (with_reducible refine awp_exit ?_)
      | (with_reducible refine post_ret ?_)
      | (with_reducible refine post_normal ?_)
      | (with_reducible refine awp_block ?_)
      | (with_reducible refine awp_scope_ret ?_)
      | (with_reducible refine awp_label ?_)
      | (with_reducible refine v_reg [] (fun K hK => ?_))
      | (with_reducible refine v_reg1 [] (fun K hK => ?_))
      | (with_reducible refine v_draw mixed [] [] (by kernel_rfl) (fun K hK => ?_))
      | (with_reducible refine v_draw1 mixed [] [] (by kernel_rfl) (fun K hK => ?_))
      | (with_reducible refine ev_nil (hK _ _ ?_); clear hK K)
      | (with_reducible refine ed_nil (hK _ _ ?_); clear hK K)
      | ((first | with_reducible refine ev_cons (fun K' hK' => ?_) | with_reducible refine ed_cons (fun K' hK' => ?_) | (with_reducible refine ev_id ?_; refine ev_guard rfl (fun K' hK' => ?_)) | (with_reducible refine ed_id ?_; refine ed_guard rfl (fun K' hK' => ?_))); simp [h5, h0, h1, rows]; repeat' (first | (with_reducible refine hK' _ _ ?_; clear hK' K') | (with_reducible refine And.intro ?_ ?_) | (with_reducible intro hg) | (clear hK' K'; omega)))
      | (with_reducible refine w_cond (fun A B hA hB => ?_); simp [h5, h0, h1, rows]; repeat' (first | (with_reducible refine hA ?_; clear hA hB A B) | (with_reducible refine hB ?_; clear hA hB A B) | (with_reducible refine And.intro ?_ ?_) | (with_reducible intro hc)))
      | (with_reducible refine awp_seq ?_))
    have : a = b := by rw [List.take_of_length_le (Nat.le_refl _), List.take_of_length_le (by omega)] at ht; exact ht
    simp [this]

theorem set9_ret {l : List Int} {n : Int} (hl : okLen l) : Ret Try.prog w0 22 [ints l, I n] (B (ptsB l n)) := by
  intro H
  refine w_enter Try.func22 rfl Try.ntmps22 (ts := [4]) rfl (by simp) (by kernel_rfl) ?_
  cases hr : risesB (-1) l with
  | false =>
    repeat' (first
      | (with_reducible refine awp_skip ?_)
      | (with_reducible refine then_any ?_)
      | (with_reducible refine then_ret ?_)
      | (with_reducible refine then_exit ?_)
      | (with_reducible refine inBlock_normal ?_)
      | (with_reducible refine inBlock_ret ?_)
      | (with_reducible refine inBlock_hit ?_)
      | (with_reducible refine inBlock_miss (by decide) ?_)
      | (with_reducible refine awp_ret ?_)
      | (with_reducible refine awp_exit ?_)
      | (with_reducible refine post_ret ?_)
      | (with_reducible refine post_normal ?_)
      | (with_reducible refine awp_block ?_)
      | (with_reducible refine awp_scope_ret ?_)
      | (with_reducible refine awp_label ?_)
      | (with_reducible refine v_reg [] (fun K hK => ?_))
      | (with_reducible refine v_reg1 [] (fun K hK => ?_))
      | (with_reducible refine v_draw mixed [] [] (by kernel_rfl) (fun K hK => ?_))
      | (with_reducible refine v_draw1 mixed [] [] (by kernel_rfl) (fun K hK => ?_))
      | (with_reducible refine ev_nil (hK _ _ ?_); clear hK K)
      | (with_reducible refine ed_nil (hK _ _ ?_); clear hK K)
      | ((first | with_reducible refine ev_cons (fun K' hK' => ?_) | with_reducible refine ed_cons (fun K' hK' => ?_) | (with_reducible refine ev_id ?_; refine ev_guard rfl (fun K' hK' => ?_)) | (with_reducible refine ed_id ?_; refine ed_guard rfl (fun K' hK' => ?_))); simp [ints, hr]; repeat' (first | (with_reducible refine hK' _ _ ?_; clear hK' K') | (with_reducible refine Ret.use (may2_ret hl) ?_; try simp [ints, hr]) | (with_reducible refine And.intro ?_ ?_) | (with_reducible intro hg) | (clear hK' K'; omega)))
      | (with_reducible refine w_cond (fun A B hA hB => ?_); simp [ints, hr]; repeat' (first | (with_reducible refine hA ?_; clear hA hB A B) | (with_reducible refine hB ?_; clear hA hB A B) | (with_reducible refine And.intro ?_ ?_) | (with_reducible intro hc)))
      | (with_reducible refine awp_seq ?_))
    simp [ptsB, hr]
  | true =>
    by_cases hne : l = []
    · subst hne
      repeat' (first
        | (with_reducible refine awp_skip ?_)
        | (with_reducible refine then_any ?_)
        | (with_reducible refine then_ret ?_)
        | (with_reducible refine then_exit ?_)
        | (with_reducible refine inBlock_normal ?_)
        | (with_reducible refine inBlock_ret ?_)
        | (with_reducible refine inBlock_hit ?_)
        | (with_reducible refine inBlock_miss (by decide) ?_)
        | (with_reducible refine awp_ret ?_)
        | (with_reducible refine awp_exit ?_)
        | (with_reducible refine post_ret ?_)
        | (with_reducible refine post_normal ?_)
        | (with_reducible refine awp_block ?_)
        | (with_reducible refine awp_scope_ret ?_)
        | (with_reducible refine awp_label ?_)
        | (with_reducible refine v_reg [] (fun K hK => ?_))
        | (with_reducible refine v_reg1 [] (fun K hK => ?_))
        | (with_reducible refine v_draw mixed [] [] (by kernel_rfl) (fun K hK => ?_))
        | (with_reducible refine v_draw1 mixed [] [] (by kernel_rfl) (fun K hK => ?_))
        | (with_reducible refine ev_nil (hK _ _ ?_); clear hK K)
        | (with_reducible refine ed_nil (hK _ _ ?_); clear hK K)
        | ((first | with_reducible refine ev_cons (fun K' hK' => ?_) | with_reducible refine ed_cons (fun K' hK' => ?_) | (with_reducible refine ev_id ?_; refine ev_guard rfl (fun K' hK' => ?_)) | (with_reducible refine ed_id ?_; refine ed_guard rfl (fun K' hK' => ?_))); simp [ints, hr]; repeat' (first | (with_reducible refine hK' _ _ ?_; clear hK' K') | ((with_reducible refine Ret.use_eq (may2_ret hl) ?_ ?_; (· simp)); try simp [ints, hr]) | (with_reducible refine And.intro ?_ ?_) | (with_reducible intro hg) | (clear hK' K'; omega)))
        | (with_reducible refine w_cond (fun A B hA hB => ?_); simp [ints, hr]; repeat' (first | (with_reducible refine hA ?_; clear hA hB A B) | (with_reducible refine hB ?_; clear hA hB A B) | (with_reducible refine And.intro ?_ ?_) | (with_reducible intro hc)))
        | (with_reducible refine awp_seq ?_))
      all_goals try simp [ptsB, hr]
    · have hpos := List.length_pos_iff.2 hne
      have hlt : l.length - 1 < l.length := by omega
      have hlast := ptsB_last (n := n) hr hne hlt
      have hi : ((l.length : Int) - 1).toNat = l.length - 1 := by omega
      have hi0 : (0 : Int) ≤ (l.length : Int) - 1 := by omega
      repeat' (first
        | (with_reducible refine awp_skip ?_)
        | (with_reducible refine then_any ?_)
        | (with_reducible refine then_ret ?_)
        | (with_reducible refine then_exit ?_)
        | (with_reducible refine inBlock_normal ?_)
        | (with_reducible refine inBlock_ret ?_)
        | (with_reducible refine inBlock_hit ?_)
        | (with_reducible refine inBlock_miss (by decide) ?_)
        | (with_reducible refine awp_ret ?_)
        | (with_reducible refine awp_exit ?_)
        | (with_reducible refine post_ret ?_)
        | (with_reducible refine post_normal ?_)
        | (with_reducible refine awp_block ?_)
        | (with_reducible refine awp_scope_ret ?_)
        | (with_reducible refine awp_label ?_)
        | (with_reducible refine v_reg [] (fun K hK => ?_))
        | (with_reducible refine v_reg1 [] (fun K hK => ?_))
        | (with_reducible refine v_draw mixed [] [] (by kernel_rfl) (fun K hK => ?_))
        | (with_reducible refine v_draw1 mixed [] [] (by kernel_rfl) (fun K hK => ?_))
        | (with_reducible refine ev_nil (hK _ _ ?_); clear hK K)
        | (with_reducible refine ed_nil (hK _ _ ?_); clear hK K)
        | ((first | with_reducible refine ev_cons (fun K' hK' => ?_) | with_reducible refine ed_cons (fun K' hK' => ?_) | (with_reducible refine ev_id ?_; refine ev_guard rfl (fun K' hK' => ?_)) | (with_reducible refine ed_id ?_; refine ed_guard rfl (fun K' hK' => ?_))); simp [ints, hr, hne, hi, hi0, hlt]; repeat' (first | (with_reducible refine hK' _ _ ?_; clear hK' K') | (with_reducible refine Ret.use (may2_ret hl) ?_; try simp [ints, hr, hne, hi, hi0, hlt]) | (with_reducible refine And.intro ?_ ?_) | (with_reducible intro hg) | (clear hK' K'; omega)))
        | (with_reducible refine w_cond (fun A B hA hB => ?_); simp [ints, hr, hne, hi, hi0, hlt]; repeat' (first | (with_reducible refine hA ?_; clear hA hB A B) | (with_reducible refine hB ?_; clear hA hB A B) | (with_reducible refine And.intro ?_ ?_) | (with_reducible intro hc)))
        | (with_reducible refine awp_seq ?_))
      all_goals try omega
      all_goals try simp [ptsB, hr, hlast]

theorem nA : NetA 2 [(0, 1), (0, 1)] 0 := (by obtain ⟨m, e, _, h⟩ := mayA_net (n := 2) (arcs := [(0, 1), (0, 1)]) (root := 0) (by decide); have : m = 2 := by omega
                                              subst this; exact h)
theorem nB : NetA 2 [(0, 1), (0, 1)] 1 := (by obtain ⟨m, e, _, h⟩ := mayA_net (n := 2) (arcs := [(0, 1), (0, 1)]) (root := 1) (by decide); have : m = 2 := by omega
                                              subst this; exact h)
theorem nC : NetA 3 [(0, 1), (1, 2)] 0 := (by obtain ⟨m, e, _, h⟩ := mayA_net (n := 3) (arcs := [(0, 1), (1, 2)]) (root := 0) (by decide); have : m = 3 := by omega
                                              subst this; exact h)
theorem nD : NetA 1 [] 0 := (by obtain ⟨m, e, _, h⟩ := mayA_net (n := 1) (arcs := []) (root := 0) (by decide); have : m = 1 := by omega
                                subst this; exact h)
theorem fl1 : flowA [(0, 1), (0, 1)] 2 no0 0 1 = (2, [1]) := nA.flowC (by omega) (by decide +kernel)
theorem fl2 : flowA [(0, 1), (0, 1)] 2 no0 1 0 = (0, [0]) := nB.flowC (by omega) (by decide +kernel)
theorem fl3 : flowA [(0, 1), (1, 2)] 3 no0 0 2 = (1, [1, 2]) := nC.flowC (by omega) (by decide +kernel)
theorem pk1 : packT 2 [(0, 1), (0, 1)] 0 2 = .tup [rows [[0], [1]], ints [], I 0] := by
  have hb : badV [(0, 1), (0, 1)] 2 0 2 = none := badV_none fun u a b c => by
    have : u = 1 := by omega
    subst this; rw [fl1]; decide
  have hp : (packI [(0, 1), (0, 1)] 2 0 2 2).2 = [[0], [1]] := by rw [nA.packI_eq]; decide +kernel
  have hK : mayK 2 [(0, 1), (0, 1)] 0 2 = true := by decide
  rw [packT, if_pos hK]
  show (match badV [(0, 1), (0, 1)] 2 0 2 with | some v => _ | none => _) = _
  rw [hb]
  show AV.tup [rows (packI [(0, 1), (0, 1)] 2 0 2 2).2, ints [], I 0] = _
  rw [hp]
theorem pk2 : packT 2 [(0, 1), (0, 1)] 0 3 = .tup [rows [], ints [1], I 200] := by
  have hb : badV [(0, 1), (0, 1)] 2 0 3 = some 1 := badV_some (v := 1) (by omega) (fun u a b c => by omega) (by decide) (by
    have := fl1
    show (flowA [(0, 1), (0, 1)] 2 no0 0 1).1 < 3
    rw [this]; decide)
  have hK : mayK 2 [(0, 1), (0, 1)] 0 3 = true := by decide
  rw [packT, if_pos hK]
  show (match badV [(0, 1), (0, 1)] 2 0 3 with | some v => _ | none => _) = _
  rw [hb]
  show AV.tup [rows [], ints (flowA [(0, 1), (0, 1)] 2 no0 0 1).2, I 200] = _
  rw [fl1]
theorem pk3 : packT 2 [(0, 1), (0, 1)] 1 1 = .tup [rows [], ints [0], I 200] := by
  have hb : badV [(0, 1), (0, 1)] 2 1 1 = some 0 := badV_some (v := 0) (by omega) (fun u a b c => by omega) (by decide) (by
    have := fl2
    show (flowA [(0, 1), (0, 1)] 2 no0 1 0).1 < 1
    rw [this]; decide)
  have hK : mayK 2 [(0, 1), (0, 1)] 1 1 = true := by decide
  rw [packT, if_pos hK]
  show (match badV [(0, 1), (0, 1)] 2 1 1 with | some v => _ | none => _) = _
  rw [hb]
  show AV.tup [rows [], ints (flowA [(0, 1), (0, 1)] 2 no0 1 0).2, I 200] = _
  rw [fl2]
theorem pk4 : packT 1 [] 0 2 = .tup [rows [[], []], ints [], I 0] := by
  have hb : badV [] 1 0 2 = none := badV_none fun u a b c => by omega
  have hp : (packI [] 1 0 2 2).2 = [[], []] := by rw [nD.packI_eq]; decide +kernel
  have hK : mayK 1 [] 0 2 = true := by decide
  rw [packT, if_pos hK]
  show (match badV [] 1 0 2 with | some v => AV.tup [rows [], ints (flowA [] 1 no0 0 v).2, I 200] | none => AV.tup [rows (packI [] 1 0 2 2).2, ints [], I 0]) = _
  rw [hb]
  show AV.tup [rows (packI [] 1 0 2 2).2, ints [], I 0] = _
  rw [hp]
theorem ft1 : flowT 3 [(0, 1), (1, 2)] 0 2 = .tup [I 1, ints [1, 2], I 0] := by
  have := flowT_ok (n := 3) (root := 0) (v := 2) (arcs := [(0, 1), (1, 2)]) (by decide) (by omega) (by omega) (by omega)
  rw [fl3] at this
  exact this
theorem ft2 : flowT 2 [(0, 1), (0, 1)] 0 0 = .tup [I 0, ints [], I 1] := flowT_root

theorem mk1 : mayK 2 [(0, 1), (0, 1)] 0 8 = true := by decide
theorem mk2 : mayK 2 [(0, 1), (0, 1)] 2 1 = false := by decide
theorem fixed20_ret : Ret Try.prog w0 13 [] (B true) := by
  intro H
  refine w_enter Try.func13 rfl Try.ntmps13 (ts := [0]) rfl (by simp) (by kernel_rfl) ?_
  repeat' (first
    | (with_reducible refine awp_skip ?_)
    | (with_reducible refine then_any ?_)
    | (with_reducible refine then_ret ?_)
    | (with_reducible refine then_exit ?_)
    | (with_reducible refine inBlock_normal ?_)
    | (with_reducible refine inBlock_ret ?_)
    | (with_reducible refine inBlock_hit ?_)
    | (with_reducible refine inBlock_miss (by decide) ?_)
    | (with_reducible refine awp_ret ?_)
    | (with_reducible refine awp_exit ?_)
    | (with_reducible refine post_ret ?_)
    | (with_reducible refine post_normal ?_)
    | (with_reducible refine awp_block ?_)
    | (with_reducible refine awp_scope_ret ?_)
    | (with_reducible refine awp_label ?_)
    | (with_reducible refine v_reg [] (fun K hK => ?_))
    | (with_reducible refine v_reg1 [] (fun K hK => ?_))
    | (with_reducible refine v_draw mixed [] [] (by kernel_rfl) (fun K hK => ?_))
    | (with_reducible refine v_draw1 mixed [] [] (by kernel_rfl) (fun K hK => ?_))
    | (with_reducible refine ev_nil (hK _ _ ?_); clear hK K)
    | (with_reducible refine ed_nil (hK _ _ ?_); clear hK K)
    | ((first | with_reducible refine ev_cons (fun K' hK' => ?_) | with_reducible refine ed_cons (fun K' hK' => ?_) | (with_reducible refine ev_id ?_; refine ev_guard rfl (fun K' hK' => ?_)) | (with_reducible refine ed_id ?_; refine ed_guard rfl (fun K' hK' => ?_))); simp [pk1, pk2, pk3, pk4, ft1, ft2, mk1, mk2]; repeat' (first | (with_reducible refine hK' _ _ ?_; clear hK' K') | ((with_reducible refine Ret.use_eq (pack_ret (n := 2) (root := 0) (k := 2) (arcs := [(0, 1), (0, 1)]) (by simp)) ?_ ?_; (· simp [pairs])); try simp [pk1, pk2, pk3, pk4, ft1, ft2, mk1, mk2]) | ((with_reducible refine Ret.use_eq (pack_ret (n := 2) (root := 0) (k := 3) (arcs := [(0, 1), (0, 1)]) (by simp)) ?_ ?_; (· simp [pairs])); try simp [pk1, pk2, pk3, pk4, ft1, ft2, mk1, mk2]) | ((with_reducible refine Ret.use_eq (pack_ret (n := 2) (root := 1) (k := 1) (arcs := [(0, 1), (0, 1)]) (by simp)) ?_ ?_; (· simp [pairs])); try simp [pk1, pk2, pk3, pk4, ft1, ft2, mk1, mk2]) | ((with_reducible refine Ret.use_eq (pack_ret (n := 1) (root := 0) (k := 2) (arcs := []) (by simp)) ?_ ?_; (· simp [pairs])); try simp [pk1, pk2, pk3, pk4, ft1, ft2, mk1, mk2]) | ((with_reducible refine Ret.use_eq (flow_ret (n := 3) (root := 0) (v := 2) (arcs := [(0, 1), (1, 2)]) (by simp)) ?_ ?_; (· simp [pairs])); try simp [pk1, pk2, pk3, pk4, ft1, ft2, mk1, mk2]) | ((with_reducible refine Ret.use_eq (flow_ret (n := 2) (root := 0) (v := 0) (arcs := [(0, 1), (0, 1)]) (by simp)) ?_ ?_; (· simp [pairs])); try simp [pk1, pk2, pk3, pk4, ft1, ft2, mk1, mk2]) | ((with_reducible refine Ret.use_eq (arcsMay_ret (n := 2) (root := 0) (k := 8) (arcs := [(0, 1), (0, 1)]) (by simp)) ?_ ?_; (· simp [pairs])); try simp [pk1, pk2, pk3, pk4, ft1, ft2, mk1, mk2]) | ((with_reducible refine Ret.use_eq (arcsMay_ret (n := 2) (root := 2) (k := 1) (arcs := [(0, 1), (0, 1)]) (by simp)) ?_ ?_; (· simp [pairs])); try simp [pk1, pk2, pk3, pk4, ft1, ft2, mk1, mk2]) | ((with_reducible refine Ret.use_eq (lists13_ret (a := [[0], [1]]) (b := [[0], [1]]) (by simp) (by simp) (by simp) (by simp)) ?_ ?_; (· simp [rows, ints])); try simp [pk1, pk2, pk3, pk4, ft1, ft2, mk1, mk2]) | ((with_reducible refine Ret.use_eq (same_ret (a := [1]) (b := [1]) (by simp) (by simp)) ?_ ?_; (· simp [ints])); try simp [pk1, pk2, pk3, pk4, ft1, ft2, mk1, mk2]) | ((with_reducible refine Ret.use_eq (same_ret (a := [0]) (b := [0]) (by simp) (by simp)) ?_ ?_; (· simp [ints])); try simp [pk1, pk2, pk3, pk4, ft1, ft2, mk1, mk2]) | ((with_reducible refine Ret.use_eq (same_ret (a := [1, 2]) (b := [1, 2]) (by simp) (by simp)) ?_ ?_; (· simp [ints])); try simp [pk1, pk2, pk3, pk4, ft1, ft2, mk1, mk2]) | (with_reducible refine And.intro ?_ ?_) | (with_reducible intro hg) | (clear hK' K'; omega)))
    | (with_reducible refine w_cond (fun A B hA hB => ?_); simp [pk1, pk2, pk3, pk4, ft1, ft2, mk1, mk2]; repeat' (first | (with_reducible refine hA ?_; clear hA hB A B) | (with_reducible refine hB ?_; clear hA hB A B) | (with_reducible refine And.intro ?_ ?_) | (with_reducible intro hc)))
    | (with_reducible refine awp_seq ?_))
  all_goals simp
end Go.Am
