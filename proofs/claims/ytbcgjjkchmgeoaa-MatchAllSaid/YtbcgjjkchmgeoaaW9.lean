/- Contracts: lists of sets compared; the calls that the document of layer 3 fixes. -/
import Derived.Test.YtbcgjjkchmgeoaaW8
namespace Go.Am
open Go Go.Proofs
set_option linter.unusedVariables false
set_option linter.unusedSimpArgs false
variable {w0 : World}
attribute [local irreducible] AWP ACalls
attribute [local congr] acalls_congr

theorem sets_ret {a b : List (List Int)} (ha : okLen a) (hb : okLen b) (hia : ∀ p ∈ a, okLen p) (hib : ∀ p ∈ b, okLen p) : Ret Try.prog w0 29 [rows a, rows b] (B (decide (a = b))) := by
  intro H
  refine w_enter Try.func29 rfl Try.ntmps29 (ts := [4]) rfl (by simp) (by kernel_rfl) ?_
  repeat' (first
    | (with_reducible refine awp_skip ?_)
    | (with_reducible refine then_any ?_)
    | (with_reducible refine then_ret ?_)
    | (with_reducible refine then_exit ?_)
    | (with_reducible refine inBlock_normal ?_)
    | (with_reducible refine inBlock_ret ?_)
    | (with_reducible refine inBlock_hit ?_)
    | (with_reducible refine inBlock_miss (by decide) ?_)
    | (with_reducible refine awp_ret ?_)
    | (with_reducible refine awp_exit ?_)
    | (with_reducible refine post_ret ?_)
    | (with_reducible refine post_normal ?_)
    | (with_reducible refine awp_block ?_)
    | (with_reducible refine v_reg [] (fun K hK => ?_))
    | (with_reducible refine v_reg1 [] (fun K hK => ?_))
    | (with_reducible refine v_draw mixed [] [] (by kernel_rfl) (fun K hK => ?_))
    | (with_reducible refine v_draw1 mixed [] [] (by kernel_rfl) (fun K hK => ?_))
    | (with_reducible refine ev_nil (hK _ _ ?_); clear hK K)
    | (with_reducible refine ed_nil (hK _ _ ?_); clear hK K)
    | ((first | with_reducible refine ev_cons (fun K' hK' => ?_) | with_reducible refine ed_cons (fun K' hK' => ?_) | (with_reducible refine ev_id ?_; refine ev_guard rfl (fun K' hK' => ?_)) | (with_reducible refine ed_id ?_; refine ed_guard rfl (fun K' hK' => ?_))); simp [rows]; repeat' (first | (with_reducible refine hK' _ _ ?_; clear hK' K') | (with_reducible refine And.intro ?_ ?_) | (with_reducible intro hg) | (clear hK' K'; omega)))
    | (with_reducible refine w_cond (fun A B hA hB => ?_); simp [rows]; repeat' (first | (with_reducible refine hA ?_; clear hA hB A B) | (with_reducible refine hB ?_; clear hA hB A B) | (with_reducible refine And.intro ?_ ?_) | (with_reducible intro hc)))
    | (with_reducible refine awp_seq ?_))
  · have : a ≠ b := fun e => by subst e; simp at hc
    simp [this]
  refine awp_loop (fun env h => ∃ (k : Nat), k ≤ a.length ∧ a.length = b.length ∧ env 5 = I k ∧ env 0 = rows a ∧ env 1 = rows b ∧ a.take k = b.take k ∧ h = H) (fun env _ => a.length - natA (env 5)) ?_ ?_
  · exact ⟨0, by omega, by omega, by simp, by simp [rows], by simp [rows], by simp, rfl⟩
  rintro env h ⟨n, hn, hab, h5, h0, h1, ht, rfl⟩
  have hnat : natA (env 5) = n := by simp [h5]
  rw [hnat]; clear hnat
  by_cases hlt : n < a.length
  · have hltb : n < b.length := by omega
    have hpa := hia a[n] (by simp)
    have hpb := hib b[n] (by simp)
    repeat' (first
      | (with_reducible refine awp_skip ?_)
      | (with_reducible refine then_any ?_)
      | (with_reducible refine then_ret ?_)
      | (with_reducible refine then_exit ?_)
      | (with_reducible refine inBlock_normal ?_)
      | (with_reducible refine inBlock_ret ?_)
      | (with_reducible refine inBlock_hit ?_)
      | (with_reducible refine inBlock_miss (by decide) ?_)
      | (with_reducible refine awp_ret ?_)
      | (with_reducible refine awp_exit ?_)
      | (with_reducible refine post_ret ?_)
      | (with_reducible refine post_normal ?_)
      | (with_reducible refine awp_block ?_)
      | (with_reducible refine v_reg [] (fun K hK => ?_))
      | (with_reducible refine v_reg1 [] (fun K hK => ?_))
      | (with_reducible refine v_draw mixed [] [] (by kernel_rfl) (fun K hK => ?_))
      | (with_reducible refine v_draw1 mixed [] [] (by kernel_rfl) (fun K hK => ?_))
      | (with_reducible refine ev_nil (hK _ _ ?_); clear hK K)
      | (with_reducible refine ed_nil (hK _ _ ?_); clear hK K)
      | ((first | with_reducible refine ev_cons (fun K' hK' => ?_) | with_reducible refine ed_cons (fun K' hK' => ?_) | (with_reducible refine ev_id ?_; refine ev_guard rfl (fun K' hK' => ?_)) | (with_reducible refine ed_id ?_; refine ed_guard rfl (fun K' hK' => ?_))); simp [h5, h0, h1, rows, ints, hlt, hltb]; repeat' (first | (with_reducible refine hK' _ _ ?_; clear hK' K') | (with_reducible refine And.intro ?_ ?_) | (with_reducible intro hg) | (clear hK' K'; omega)))
      | (with_reducible refine w_cond (fun A B hA hB => ?_); simp [h5, h0, h1, rows, ints, hlt, hltb]; repeat' (first | (with_reducible refine hA ?_; clear hA hB A B) | (with_reducible refine hB ?_; clear hA hB A B) | (with_reducible refine And.intro ?_ ?_) | (with_reducible intro hc)))
      | (with_reducible refine awp_seq ?_))
    · have : a ≠ b := fun e => by subst e; simp at hc
      simp [this]
    refine awp_loop (fun env h' => ∃ (k : Nat), k ≤ a[n].length ∧ a[n].length = b[n].length ∧ env 6 = I k ∧ env 5 = I n ∧ env 0 = rows a ∧ env 1 = rows b ∧ a[n].take k = b[n].take k ∧ h' = h) (fun env _ => a[n].length - natA (env 6)) ?_ ?_
    · exact ⟨0, by omega, by omega, by simp, by simp [h5], by simp [h0], by simp [h1], by simp, rfl⟩
    clear h5 h0 h1
    rintro env1 h1 ⟨k, hk, hl, h6, h5, h0, h1, htk, rfl⟩
    have hnat : natA (env1 6) = k := by simp [h6]
    rw [hnat]; clear hnat
    by_cases hltk : k < a[n].length
    · have hltkb : k < b[n].length := by omega
      repeat' (first
        | (with_reducible refine awp_skip ?_)
        | (with_reducible refine then_any ?_)
        | (with_reducible refine then_ret ?_)
        | (with_reducible refine then_exit ?_)
        | (with_reducible refine inBlock_normal ?_)
        | (with_reducible refine inBlock_ret ?_)
        | (with_reducible refine inBlock_hit ?_)
        | (with_reducible refine inBlock_miss (by decide) ?_)
        | (with_reducible refine awp_ret ?_)
        | (with_reducible refine awp_exit ?_)
        | (with_reducible refine post_ret ?_)
        | (with_reducible refine post_normal ?_)
        | (with_reducible refine awp_block ?_)
        | (with_reducible refine v_reg [] (fun K hK => ?_))
        | (with_reducible refine v_reg1 [] (fun K hK => ?_))
        | (with_reducible refine v_draw mixed [] [] (by kernel_rfl) (fun K hK => ?_))
        | (with_reducible refine v_draw1 mixed [] [] (by kernel_rfl) (fun K hK => ?_))
        | (with_reducible refine ev_nil (hK _ _ ?_); clear hK K)
        | (with_reducible refine ed_nil (hK _ _ ?_); clear hK K)
        | ((first | with_reducible refine ev_cons (fun K' hK' => ?_) | with_reducible refine ed_cons (fun K' hK' => ?_) | (with_reducible refine ev_id ?_; refine ev_guard rfl (fun K' hK' => ?_)) | (with_reducible refine ed_id ?_; refine ed_guard rfl (fun K' hK' => ?_))); simp [h5, h6, h0, h1, rows, ints, hlt, hltb, hltk, hltkb]; repeat' (first | (with_reducible refine hK' _ _ ?_; clear hK' K') | (with_reducible refine And.intro ?_ ?_) | (with_reducible intro hg) | (clear hK' K'; omega)))
        | (with_reducible refine w_cond (fun A B hA hB => ?_); simp [h5, h6, h0, h1, rows, ints, hlt, hltb, hltk, hltkb]; repeat' (first | (with_reducible refine hA ?_; clear hA hB A B) | (with_reducible refine hB ?_; clear hA hB A B) | (with_reducible refine And.intro ?_ ?_) | (with_reducible intro hc)))
        | (with_reducible refine awp_seq ?_))
      · have : a ≠ b := fun e => by subst e; simp at hc
        simp [this]
      · have hc' : a[n][k] = b[n][k] := by simpa using hc
        have ht' : a[n].take (k + 1) = b[n].take (k + 1) := by rw [List.take_succ_eq_append_getElem hltk, List.take_succ_eq_append_getElem hltkb, htk, hc']
        exact ⟨⟨k + 1, by omega, hl, by simp, by simp [h5], by simp [h0], by simp [h1], ht', rfl⟩, by simp; omega⟩
    · have : k = a[n].length := by omega
      repeat' (first
        | (with_reducible refine awp_skip ?_)
        | (with_reducible refine then_any ?_)
        | (with_reducible refine then_ret ?_)
        | (with_reducible refine then_exit ?_)
        | (with_reducible refine inBlock_normal ?_)
        | (with_reducible refine inBlock_ret ?_)
        | (with_reducible refine inBlock_hit ?_)
        | (with_reducible refine inBlock_miss (by decide) ?_)
        | (with_reducible refine awp_ret ?_)
        | (with_reducible refine awp_exit ?_)
        | (with_reducible refine post_ret ?_)
        | (with_reducible refine post_normal ?_)
        | (with_reducible refine awp_block ?_)
        | (with_reducible refine v_reg [] (fun K hK => ?_))
        | (with_reducible refine v_reg1 [] (fun K hK => ?_))
        | (with_reducible refine v_draw mixed [] [] (by kernel_rfl) (fun K hK => ?_))
        | (with_reducible refine v_draw1 mixed [] [] (by kernel_rfl) (fun K hK => ?_))
        | (with_reducible refine ev_nil (hK _ _ ?_); clear hK K)
        | (with_reducible refine ed_nil (hK _ _ ?_); clear hK K)
        | ((first | with_reducible refine ev_cons (fun K' hK' => ?_) | with_reducible refine ed_cons (fun K' hK' => ?_) | (with_reducible refine ev_id ?_; refine ev_guard rfl (fun K' hK' => ?_)) | (with_reducible refine ed_id ?_; refine ed_guard rfl (fun K' hK' => ?_))); simp [h5, h6, h0, h1, rows, ints, hlt, hltb, hltk]; repeat' (first | (with_reducible refine hK' _ _ ?_; clear hK' K') | (with_reducible refine And.intro ?_ ?_) | (with_reducible intro hg) | (clear hK' K'; omega)))
        | (with_reducible refine w_cond (fun A B hA hB => ?_); simp [h5, h6, h0, h1, rows, ints, hlt, hltb, hltk]; repeat' (first | (with_reducible refine hA ?_; clear hA hB A B) | (with_reducible refine hB ?_; clear hA hB A B) | (with_reducible refine And.intro ?_ ?_) | (with_reducible intro hc)))
        | (with_reducible refine awp_seq ?_))
      have he : a[n] = b[n] := by rw [List.take_of_length_le (by omega), List.take_of_length_le (by omega)] at htk; exact htk
      have ht' : a.take (n + 1) = b.take (n + 1) := by rw [List.take_succ_eq_append_getElem hlt, List.take_succ_eq_append_getElem hltb, ht, he]
      exact ⟨⟨n + 1, by omega, hab, by simp, by simp [h0], by simp [h1], ht', rfl⟩, by simp; omega⟩
  · have : n = a.length := by omega
    subst this
    repeat' (first
      | (with_reducible refine awp_skip ?_)
      | (with_reducible refine then_any ?_)
      | (with_reducible refine then_ret ?_)
      | (with_reducible refine then_exit ?_)
      | (with_reducible refine inBlock_normal ?_)
      | (with_reducible refine inBlock_ret ?_)
      | (with_reducible refine inBlock_hit ?_)
      | (with_reducible refine inBlock_miss (by decide) ?_)
      | (with_reducible refine awp_ret ?_)
      | (with_reducible refine awp_exit ?_)
      | (with_reducible refine post_ret ?_)
      | (with_reducible refine post_normal ?_)
      | (with_reducible refine awp_block ?_)
      | (with_reducible refine v_reg [] (fun K hK => ?_))
      | (with_reducible refine v_reg1 [] (fun K hK => ?_))
      | (with_reducible refine v_draw mixed [] [] (by kernel_rfl) (fun K hK => ?_))
      | (with_reducible refine v_draw1 mixed [] [] (by kernel_rfl) (fun K hK => ?_))
      | (with_reducible refine ev_nil (hK _ _ ?_); clear hK K)
      | (with_reducible refine ed_nil (hK _ _ ?_); clear hK K)
      | ((first | with_reducible refine ev_cons (fun K' hK' => ?_) | with_reducible refine ed_cons (fun K' hK' => ?_) | (with_reducible refine ev_id ?_; refine ev_guard rfl (fun K' hK' => ?_)) | (with_reducible refine ed_id ?_; refine ed_guard rfl (fun K' hK' => ?_))); simp [h5, h0, h1, rows]; repeat' (first | (with_reducible refine hK' _ _ ?_; clear hK' K') | (with_reducible refine And.intro ?_ ?_) | (with_reducible intro hg) | (clear hK' K'; omega)))
      | (with_reducible refine w_cond (fun A B hA hB => ?_); simp [h5, h0, h1, rows]; repeat' (first | (with_reducible refine hA ?_; clear hA hB A B) | (with_reducible refine hB ?_; clear hA hB A B) | (with_reducible refine And.intro ?_ ?_) | (with_reducible intro hc)))
      | (with_reducible refine awp_seq ?_))
    have : a = b := by rw [List.take_of_length_le (Nat.le_refl _), List.take_of_length_le (by omega)] at ht; exact ht
    simp [this]

theorem c1 : compsL 3 [(0, 2)] = [0, 1, 0] := by rfl
theorem c2 : okE 3 [(0, 2)] = 0 := by rfl
theorem c3 : partsL 3 [(0, 2)] = [[0, 2], [1]] := by rfl
theorem c4 : okE 3 [(0, 3)] = 1 := by rfl
theorem c5 : okE 0 [] = 1 := by rfl
theorem c6 : (if validG 3 [(0, 2)] then ((compJ [(0, 2)]).2 : Int) else -1) = 1 := by rfl
theorem c7 : (if validG 3 [(0, 2), (2, 0)] then ((compJ [(0, 2), (2, 0)]).2 : Int) else -1) = 1 := by rfl
theorem c8 : (if validG 1 [(0, 0)] then ((compJ [(0, 0)]).2 : Int) else -1) = 0 := by rfl
theorem c9 : (if validG 65 [] then ((compJ []).2 : Int) else -1) = -1 := by rfl
theorem c10 : validG 3 [(0, 3)] = false := by rfl
theorem c11 : validG 0 [] = false := by rfl

theorem fixed3_ret : Ret Try.prog w0 23 [] (B true) := by
  intro H
  refine w_enter Try.func23 rfl Try.ntmps23 (ts := [0]) rfl (by simp) (by kernel_rfl) ?_
  repeat' (first
    | (with_reducible refine awp_skip ?_)
    | (with_reducible refine then_any ?_)
    | (with_reducible refine then_ret ?_)
    | (with_reducible refine then_exit ?_)
    | (with_reducible refine inBlock_normal ?_)
    | (with_reducible refine inBlock_ret ?_)
    | (with_reducible refine inBlock_hit ?_)
    | (with_reducible refine inBlock_miss (by decide) ?_)
    | (with_reducible refine awp_ret ?_)
    | (with_reducible refine awp_exit ?_)
    | (with_reducible refine post_ret ?_)
    | (with_reducible refine post_normal ?_)
    | (with_reducible refine awp_block ?_)
    | (with_reducible refine v_reg [] (fun K hK => ?_))
    | (with_reducible refine v_reg1 [] (fun K hK => ?_))
    | (with_reducible refine v_draw mixed [] [] (by kernel_rfl) (fun K hK => ?_))
    | (with_reducible refine v_draw1 mixed [] [] (by kernel_rfl) (fun K hK => ?_))
    | (with_reducible refine ev_nil (hK _ _ ?_); clear hK K)
    | (with_reducible refine ed_nil (hK _ _ ?_); clear hK K)
    | ((first | with_reducible refine ev_cons (fun K' hK' => ?_) | with_reducible refine ed_cons (fun K' hK' => ?_) | (with_reducible refine ev_id ?_; refine ev_guard rfl (fun K' hK' => ?_)) | (with_reducible refine ed_id ?_; refine ed_guard rfl (fun K' hK' => ?_))); simp [c1, c2, c3, c4, c5, c6, c7, c8, c9]; repeat' (first | (with_reducible refine hK' _ _ ?_; clear hK' K') | ((with_reducible refine Ret.use_eq (comps_ret (n := 3) (es := [(0, 2)]) (by simp)) ?_ ?_; (· simp [pairs])); try simp [c1, c2, c3, c4, c5, c6, c7, c8, c9]) | ((with_reducible refine Ret.use_eq (comps_ret (n := 3) (es := [(0, 3)]) (by simp)) ?_ ?_; (· simp [pairs])); try simp [c1, c2, c3, c4, c5, c6, c7, c8, c9]) | ((with_reducible refine Ret.use_eq (parts_ret (n := 3) (es := [(0, 2)]) (by simp)) ?_ ?_; (· simp [pairs])); try simp [c1, c2, c3, c4, c5, c6, c7, c8, c9]) | ((with_reducible refine Ret.use_eq (parts_ret (n := 0) (es := []) (by simp)) ?_ ?_; (· simp [pairs])); try simp [c1, c2, c3, c4, c5, c6, c7, c8, c9]) | ((with_reducible refine Ret.use_eq (same_ret (a := [0, 1, 0]) (b := [0, 1, 0]) (by simp) (by simp)) ?_ ?_; (· simp [ints])); try simp [c1, c2, c3, c4, c5, c6, c7, c8, c9]) | ((with_reducible refine Ret.use_eq (sets_ret (a := [[0, 2], [1]]) (b := [[0, 2], [1]]) (by simp) (by simp) (by simp) (by simp)) ?_ ?_; (· simp [rows, ints])); try simp [c1, c2, c3, c4, c5, c6, c7, c8, c9]) | ((with_reducible refine Ret.use_eq (rank_ret (n := 3) (es := [(0, 2)]) (by simp)) ?_ ?_; (· simp [pairs])); try simp [c1, c2, c3, c4, c5, c6, c7, c8, c9]) | ((with_reducible refine Ret.use_eq (rank_ret (n := 65) (es := []) (by simp)) ?_ ?_; (· simp [pairs])); try simp [c1, c2, c3, c4, c5, c6, c7, c8, c9]) | ((with_reducible refine Ret.use_eq (forestB_ret (n := 3) (es := [(0, 2)]) (by simp)) ?_ ?_; (· simp [pairs])); try simp [c1, c2, c3, c4, c5, c6, c7, c8, c9]) | ((with_reducible refine Ret.use_eq (forestB_ret (n := 3) (es := [(0, 2), (2, 0)]) (by simp)) ?_ ?_; (· simp [pairs])); try simp [c1, c2, c3, c4, c5, c6, c7, c8, c9]) | ((with_reducible refine Ret.use_eq (forestB_ret (n := 1) (es := [(0, 0)]) (by simp)) ?_ ?_; (· simp [pairs])); try simp [c1, c2, c3, c4, c5, c6, c7, c8, c9]) | (with_reducible refine And.intro ?_ ?_) | (with_reducible intro hg) | (clear hK' K'; omega)))
    | (with_reducible refine w_cond (fun A B hA hB => ?_); simp [c1, c2, c3, c4, c5, c6, c7, c8, c9]; repeat' (first | (with_reducible refine hA ?_; clear hA hB A B) | (with_reducible refine hB ?_; clear hA hB A B) | (with_reducible refine And.intro ?_ ?_) | (with_reducible intro hc)))
    | (with_reducible refine awp_seq ?_))
  all_goals simp

#print axioms fixed3_ret
end Go.Am
