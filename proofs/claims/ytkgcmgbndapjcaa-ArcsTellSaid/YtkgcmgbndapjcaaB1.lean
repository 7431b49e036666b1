
/- Contracts: Same, May, in, Has of the reference. -/
/- Contracts: Has, Meet, Minus of the reference. -/
/- Contracts: the program's sets. -/
/- Contracts: union, meet, difference, subset, membership, and the reference's sorted list and union. -/
import Derived.Test.YtkgcmgbndapjcaaAmT
import Derived.Test.YtkgcmgbndapjcaaA3
namespace Go.Am
open Go Go.Proofs
set_option linter.unusedVariables false
set_option linter.unusedSimpArgs false
variable {w0 : World}
attribute [local irreducible] AWP ACalls

/-- Rises, from behind last on, up to 2 to the 40. -/
def risesB : Int → List Int → Bool
  | _, [] => true
  | last, x :: l => decide (last < x) && decide (x ≤ 1099511627776) && risesB x l

theorem may_ok (l : List Int) (H : Heap) (K : AV → Heap → Prop) (hl : l.length ≤ 4611686018427387904) (k : K (B (risesB (-1) l)) H) : ACalls Try.prog w0 86 [ints l] H K := by
  refine w_enter Try.func86 rfl Try.ntmps86 (ts := [2]) rfl (by simp) (by kernel_rfl) ?_
  repeat' (first
    | (with_reducible refine awp_skip ?_)
    | (with_reducible refine then_any ?_)
    | (with_reducible refine then_ret ?_)
    | (with_reducible refine then_exit ?_)
    | (with_reducible refine inBlock_normal ?_)
    | (with_reducible refine inBlock_ret ?_)
    | (with_reducible refine inBlock_hit ?_)
    | (with_reducible refine inBlock_miss (by decide) ?_)
    | (with_reducible refine awp_ret ?_)
    | (with_reducible refine awp_exit ?_)
    | (with_reducible refine post_ret ?_)
    | (with_reducible refine post_normal ?_)
    | (with_reducible refine awp_block ?_)
    | (with_reducible refine v_reg [] (fun K hK => ?_))
    | (with_reducible refine v_reg1 [] (fun K hK => ?_))
    | (with_reducible refine v_draw mixed [] [] (by kernel_rfl) (fun K hK => ?_))
    | (with_reducible refine v_draw1 mixed [] [] (by kernel_rfl) (fun K hK => ?_))
    | (with_reducible refine ev_nil (hK _ _ ?_); clear hK K)
    | (with_reducible refine ed_nil (hK _ _ ?_); clear hK K)
    | ((first | with_reducible refine ev_cons (fun K' hK' => ?_) | with_reducible refine ed_cons (fun K' hK' => ?_) | (with_reducible refine ev_id ?_; refine ev_guard rfl (fun K' hK' => ?_)) | (with_reducible refine ed_id ?_; refine ed_guard rfl (fun K' hK' => ?_))); simp [ints]; repeat' (first | (with_reducible refine hK' _ _ ?_; clear hK' K') | (with_reducible refine And.intro ?_ ?_) | (with_reducible intro hg) | (clear hK' K'; omega)))
    | (with_reducible refine w_cond (fun A B hA hB => ?_); simp [ints]; repeat' (first | (with_reducible refine hA ?_; clear hA hB A B) | (with_reducible refine hB ?_; clear hA hB A B) | (with_reducible refine And.intro ?_ ?_) | (with_reducible intro hc)))
    | (with_reducible refine awp_seq ?_))
  refine awp_loop (fun env h => ∃ (k : Nat) (last : Int), k ≤ l.length ∧ env 8 = I k ∧ env 7 = I l.length ∧ env 6 = ints l ∧ env 3 = I last ∧ risesB (-1) l = risesB last (l.drop k) ∧ h = H) (fun env _ => l.length - natA (env 8)) ?_ ?_
  · exact ⟨0, -1, by simp [ints, upd_get]⟩
  rintro env h ⟨n, last, hn, h8, h7, h6, h3, hr, rfl⟩
  have hnat : natA (env 8) = n := by simp [h8]
  rw [hnat]; clear hnat
  by_cases hlt : n < l.length
  · rw [List.drop_eq_getElem_cons hlt, risesB] at hr
    repeat' (first
      | (with_reducible refine awp_skip ?_)
      | (with_reducible refine then_any ?_)
      | (with_reducible refine then_ret ?_)
      | (with_reducible refine then_exit ?_)
      | (with_reducible refine inBlock_normal ?_)
      | (with_reducible refine inBlock_ret ?_)
      | (with_reducible refine inBlock_hit ?_)
      | (with_reducible refine inBlock_miss (by decide) ?_)
      | (with_reducible refine awp_ret ?_)
      | (with_reducible refine awp_exit ?_)
      | (with_reducible refine post_ret ?_)
      | (with_reducible refine post_normal ?_)
      | (with_reducible refine awp_block ?_)
      | (with_reducible refine v_reg [] (fun K hK => ?_))
      | (with_reducible refine v_reg1 [] (fun K hK => ?_))
      | (with_reducible refine v_draw mixed [] [] (by kernel_rfl) (fun K hK => ?_))
      | (with_reducible refine v_draw1 mixed [] [] (by kernel_rfl) (fun K hK => ?_))
      | (with_reducible refine ev_nil (hK _ _ ?_); clear hK K)
      | (with_reducible refine ed_nil (hK _ _ ?_); clear hK K)
      | ((first | with_reducible refine ev_cons (fun K' hK' => ?_) | with_reducible refine ed_cons (fun K' hK' => ?_) | (with_reducible refine ev_id ?_; refine ev_guard rfl (fun K' hK' => ?_)) | (with_reducible refine ed_id ?_; refine ed_guard rfl (fun K' hK' => ?_))); simp [h8, h7, h6, h3, ints, hlt]; repeat' (first | (with_reducible refine hK' _ _ ?_; clear hK' K') | (with_reducible refine And.intro ?_ ?_) | (with_reducible intro hg) | (clear hK' K'; omega)))
      | (with_reducible refine w_cond (fun A B hA hB => ?_); simp [h8, h7, h6, h3, ints, hlt]; repeat' (first | (with_reducible refine hA ?_; clear hA hB A B) | (with_reducible refine hB ?_; clear hA hB A B) | (with_reducible refine And.intro ?_ ?_) | (with_reducible intro hc)))
      | (with_reducible refine awp_seq ?_))
    · rw [decide_eq_true hg, decide_eq_false (by omega)] at hr
      simp at hr
      rw [hr] at k
      simpa using k
    · rw [decide_eq_true hg, decide_eq_true hc] at hr
      refine ⟨⟨n + 1, l[n], ?_⟩, ?_⟩
      · simp [h7, h6, ints, hr]; omega
      · simp; omega
    · have hd : decide (last < l[n]) = false := by simpa using hg
      rw [hd] at hr
      simp at hr
      rw [hr] at k
      simpa using k
  · have : n = l.length := by omega
    subst this
    repeat' (first
      | (with_reducible refine awp_skip ?_)
      | (with_reducible refine then_any ?_)
      | (with_reducible refine then_ret ?_)
      | (with_reducible refine then_exit ?_)
      | (with_reducible refine inBlock_normal ?_)
      | (with_reducible refine inBlock_ret ?_)
      | (with_reducible refine inBlock_hit ?_)
      | (with_reducible refine inBlock_miss (by decide) ?_)
      | (with_reducible refine awp_ret ?_)
      | (with_reducible refine awp_exit ?_)
      | (with_reducible refine post_ret ?_)
      | (with_reducible refine post_normal ?_)
      | (with_reducible refine awp_block ?_)
      | (with_reducible refine v_reg [] (fun K hK => ?_))
      | (with_reducible refine v_reg1 [] (fun K hK => ?_))
      | (with_reducible refine v_draw mixed [] [] (by kernel_rfl) (fun K hK => ?_))
      | (with_reducible refine v_draw1 mixed [] [] (by kernel_rfl) (fun K hK => ?_))
      | (with_reducible refine ev_nil (hK _ _ ?_); clear hK K)
      | (with_reducible refine ed_nil (hK _ _ ?_); clear hK K)
      | ((first | with_reducible refine ev_cons (fun K' hK' => ?_) | with_reducible refine ed_cons (fun K' hK' => ?_) | (with_reducible refine ev_id ?_; refine ev_guard rfl (fun K' hK' => ?_)) | (with_reducible refine ed_id ?_; refine ed_guard rfl (fun K' hK' => ?_))); simp [h8, h7, h6, h3, ints]; repeat' (first | (with_reducible refine hK' _ _ ?_; clear hK' K') | (with_reducible refine And.intro ?_ ?_) | (with_reducible intro hg) | (clear hK' K'; omega)))
      | (with_reducible refine w_cond (fun A B hA hB => ?_); simp [h8, h7, h6, h3, ints]; repeat' (first | (with_reducible refine hA ?_; clear hA hB A B) | (with_reducible refine hB ?_; clear hA hB A B) | (with_reducible refine And.intro ?_ ?_) | (with_reducible intro hc)))
      | (with_reducible refine awp_seq ?_))
    simp [risesB] at hr
    simp
    rw [hr] at k
    exact k
#print axioms may_ok
end Go.Am

namespace Go.Am
open Go Go.Proofs
set_option linter.unusedVariables false
set_option linter.unusedSimpArgs false
variable {w0 : World}
attribute [local irreducible] AWP ACalls
attribute [local congr] acalls_congr

/-- A list is of a length that a slice may have. -/
abbrev okLen {α : Type} (l : List α) : Prop := l.length ≤ 4611686018427387904

theorem may_ret {l : List Int} (hl : okLen l) : Ret Try.prog w0 86 [ints l] (B (risesB (-1) l)) :=
  fun H => may_ok l H _ hl ⟨rfl, .refl _⟩

theorem same_ret {a b : List Int} (ha : okLen a) (hb : okLen b) : Ret Try.prog w0 19 [ints a, ints b] (B (decide (a = b))) := by
  intro H
  refine w_enter Try.func19 rfl Try.ntmps19 (ts := [4]) rfl (by simp) (by kernel_rfl) ?_
  repeat' (first
    | (with_reducible refine awp_skip ?_)
    | (with_reducible refine then_any ?_)
    | (with_reducible refine then_ret ?_)
    | (with_reducible refine then_exit ?_)
    | (with_reducible refine inBlock_normal ?_)
    | (with_reducible refine inBlock_ret ?_)
    | (with_reducible refine inBlock_hit ?_)
    | (with_reducible refine inBlock_miss (by decide) ?_)
    | (with_reducible refine awp_ret ?_)
    | (with_reducible refine awp_exit ?_)
    | (with_reducible refine post_ret ?_)
    | (with_reducible refine post_normal ?_)
    | (with_reducible refine awp_block ?_)
    | (with_reducible refine v_reg [] (fun K hK => ?_))
    | (with_reducible refine v_reg1 [] (fun K hK => ?_))
    | (with_reducible refine v_draw mixed [] [] (by kernel_rfl) (fun K hK => ?_))
    | (with_reducible refine v_draw1 mixed [] [] (by kernel_rfl) (fun K hK => ?_))
    | (with_reducible refine ev_nil (hK _ _ ?_); clear hK K)
    | (with_reducible refine ed_nil (hK _ _ ?_); clear hK K)
    | ((first | with_reducible refine ev_cons (fun K' hK' => ?_) | with_reducible refine ed_cons (fun K' hK' => ?_) | (with_reducible refine ev_id ?_; refine ev_guard rfl (fun K' hK' => ?_)) | (with_reducible refine ed_id ?_; refine ed_guard rfl (fun K' hK' => ?_))); simp [ints]; repeat' (first | (with_reducible refine hK' _ _ ?_; clear hK' K') | (with_reducible refine And.intro ?_ ?_) | (with_reducible intro hg) | (clear hK' K'; omega)))
    | (with_reducible refine w_cond (fun A B hA hB => ?_); simp [ints]; repeat' (first | (with_reducible refine hA ?_; clear hA hB A B) | (with_reducible refine hB ?_; clear hA hB A B) | (with_reducible refine And.intro ?_ ?_) | (with_reducible intro hc)))
    | (with_reducible refine awp_seq ?_))
  · have : a ≠ b := fun e => by subst e; simp at hc
    simp [this]
  refine awp_loop (fun env h => ∃ (k : Nat), k ≤ a.length ∧ a.length = b.length ∧ env 5 = I k ∧ env 0 = ints a ∧ env 1 = ints b ∧ a.take k = b.take k ∧ h = H) (fun env _ => a.length - natA (env 5)) ?_ ?_
  · exact ⟨0, by simp [ints, upd_get]; omega⟩
  rintro env h ⟨n, hn, hab, h5, h0, h1, ht, rfl⟩
  have hnat : natA (env 5) = n := by simp [h5]
  rw [hnat]; clear hnat
  by_cases hlt : n < a.length
  · have hltb : n < b.length := by omega
    repeat' (first
      | (with_reducible refine awp_skip ?_)
      | (with_reducible refine then_any ?_)
      | (with_reducible refine then_ret ?_)
      | (with_reducible refine then_exit ?_)
      | (with_reducible refine inBlock_normal ?_)
      | (with_reducible refine inBlock_ret ?_)
      | (with_reducible refine inBlock_hit ?_)
      | (with_reducible refine inBlock_miss (by decide) ?_)
      | (with_reducible refine awp_ret ?_)
      | (with_reducible refine awp_exit ?_)
      | (with_reducible refine post_ret ?_)
      | (with_reducible refine post_normal ?_)
      | (with_reducible refine awp_block ?_)
      | (with_reducible refine v_reg [] (fun K hK => ?_))
      | (with_reducible refine v_reg1 [] (fun K hK => ?_))
      | (with_reducible refine v_draw mixed [] [] (by kernel_rfl) (fun K hK => ?_))
      | (with_reducible refine v_draw1 mixed [] [] (by kernel_rfl) (fun K hK => ?_))
      | (with_reducible refine ev_nil (hK _ _ ?_); clear hK K)
      | (with_reducible refine ed_nil (hK _ _ ?_); clear hK K)
      | ((first | with_reducible refine ev_cons (fun K' hK' => ?_) | with_reducible refine ed_cons (fun K' hK' => ?_) | (with_reducible refine ev_id ?_; refine ev_guard rfl (fun K' hK' => ?_)) | (with_reducible refine ed_id ?_; refine ed_guard rfl (fun K' hK' => ?_))); simp [h5, h0, h1, ints, hlt, hltb]; repeat' (first | (with_reducible refine hK' _ _ ?_; clear hK' K') | (with_reducible refine And.intro ?_ ?_) | (with_reducible intro hg) | (clear hK' K'; omega)))
      | (with_reducible refine w_cond (fun A B hA hB => ?_); simp [h5, h0, h1, ints, hlt, hltb]; repeat' (first | (with_reducible refine hA ?_; clear hA hB A B) | (with_reducible refine hB ?_; clear hA hB A B) | (with_reducible refine And.intro ?_ ?_) | (with_reducible intro hc)))
      | (with_reducible refine awp_seq ?_))
    · have : a ≠ b := fun e => by subst e; simp at hc
      simp [this]
    · refine ⟨⟨n + 1, ?_⟩, ?_⟩
      · have hc' : a[n] = b[n] := by simpa using hc
        have ht' : a.take (n + 1) = b.take (n + 1) := by rw [List.take_add_one, List.take_add_one, ht]; simp [hlt, hltb, hc']
        simp [h0, h1, ints, ht', hab]; omega
      · simp; omega
  · have : n = a.length := by omega
    subst this
    repeat' (first
      | (with_reducible refine awp_skip ?_)
      | (with_reducible refine then_any ?_)
      | (with_reducible refine then_ret ?_)
      | (with_reducible refine then_exit ?_)
      | (with_reducible refine inBlock_normal ?_)
      | (with_reducible refine inBlock_ret ?_)
      | (with_reducible refine inBlock_hit ?_)
      | (with_reducible refine inBlock_miss (by decide) ?_)
      | (with_reducible refine awp_ret ?_)
      | (with_reducible refine awp_exit ?_)
      | (with_reducible refine post_ret ?_)
      | (with_reducible refine post_normal ?_)
      | (with_reducible refine awp_block ?_)
      | (with_reducible refine v_reg [] (fun K hK => ?_))
      | (with_reducible refine v_reg1 [] (fun K hK => ?_))
      | (with_reducible refine v_draw mixed [] [] (by kernel_rfl) (fun K hK => ?_))
      | (with_reducible refine v_draw1 mixed [] [] (by kernel_rfl) (fun K hK => ?_))
      | (with_reducible refine ev_nil (hK _ _ ?_); clear hK K)
      | (with_reducible refine ed_nil (hK _ _ ?_); clear hK K)
      | ((first | with_reducible refine ev_cons (fun K' hK' => ?_) | with_reducible refine ed_cons (fun K' hK' => ?_) | (with_reducible refine ev_id ?_; refine ev_guard rfl (fun K' hK' => ?_)) | (with_reducible refine ed_id ?_; refine ed_guard rfl (fun K' hK' => ?_))); simp [h5, h0, h1, ints]; repeat' (first | (with_reducible refine hK' _ _ ?_; clear hK' K') | (with_reducible refine And.intro ?_ ?_) | (with_reducible intro hg) | (clear hK' K'; omega)))
      | (with_reducible refine w_cond (fun A B hA hB => ?_); simp [h5, h0, h1, ints]; repeat' (first | (with_reducible refine hA ?_; clear hA hB A B) | (with_reducible refine hB ?_; clear hA hB A B) | (with_reducible refine And.intro ?_ ?_) | (with_reducible intro hc)))
      | (with_reducible refine awp_seq ?_))
    have : a = b := by rw [List.take_of_length_le (Nat.le_refl _), List.take_of_length_le (by omega)] at ht; exact ht
    simp [this]

theorem in_ret {l : List Int} {x : Int} (hl : okLen l) : Ret Try.prog w0 43 [ints l, I x] (B (decide (x ∈ l))) := by
  intro H
  refine w_enter Try.func43 rfl Try.ntmps43 (ts := [4]) rfl (by simp) (by kernel_rfl) ?_
  repeat' (first
    | (with_reducible refine awp_skip ?_)
    | (with_reducible refine then_any ?_)
    | (with_reducible refine then_ret ?_)
    | (with_reducible refine then_exit ?_)
    | (with_reducible refine inBlock_normal ?_)
    | (with_reducible refine inBlock_ret ?_)
    | (with_reducible refine inBlock_hit ?_)
    | (with_reducible refine inBlock_miss (by decide) ?_)
    | (with_reducible refine awp_ret ?_)
    | (with_reducible refine awp_exit ?_)
    | (with_reducible refine post_ret ?_)
    | (with_reducible refine post_normal ?_)
    | (with_reducible refine awp_block ?_)
    | (with_reducible refine v_reg [] (fun K hK => ?_))
    | (with_reducible refine v_reg1 [] (fun K hK => ?_))
    | (with_reducible refine v_draw mixed [] [] (by kernel_rfl) (fun K hK => ?_))
    | (with_reducible refine v_draw1 mixed [] [] (by kernel_rfl) (fun K hK => ?_))
    | (with_reducible refine ev_nil (hK _ _ ?_); clear hK K)
    | (with_reducible refine ed_nil (hK _ _ ?_); clear hK K)
    | ((first | with_reducible refine ev_cons (fun K' hK' => ?_) | with_reducible refine ed_cons (fun K' hK' => ?_) | (with_reducible refine ev_id ?_; refine ev_guard rfl (fun K' hK' => ?_)) | (with_reducible refine ed_id ?_; refine ed_guard rfl (fun K' hK' => ?_))); simp [ints]; repeat' (first | (with_reducible refine hK' _ _ ?_; clear hK' K') | (with_reducible refine And.intro ?_ ?_) | (with_reducible intro hg) | (clear hK' K'; omega)))
    | (with_reducible refine w_cond (fun A B hA hB => ?_); simp [ints]; repeat' (first | (with_reducible refine hA ?_; clear hA hB A B) | (with_reducible refine hB ?_; clear hA hB A B) | (with_reducible refine And.intro ?_ ?_) | (with_reducible intro hc)))
    | (with_reducible refine awp_seq ?_))
  refine awp_loop (fun env h => ∃ (k : Nat), k ≤ l.length ∧ env 5 = I k ∧ env 0 = ints l ∧ env 1 = I x ∧ x ∉ l.take k ∧ h = H) (fun env _ => l.length - natA (env 5)) ?_ ?_
  · exact ⟨0, by simp [ints, upd_get]⟩
  rintro env h ⟨n, hn, h5, h0, h1, ht, rfl⟩
  have hnat : natA (env 5) = n := by simp [h5]
  rw [hnat]; clear hnat
  by_cases hlt : n < l.length
  · repeat' (first
      | (with_reducible refine awp_skip ?_)
      | (with_reducible refine then_any ?_)
      | (with_reducible refine then_ret ?_)
      | (with_reducible refine then_exit ?_)
      | (with_reducible refine inBlock_normal ?_)
      | (with_reducible refine inBlock_ret ?_)
      | (with_reducible refine inBlock_hit ?_)
      | (with_reducible refine inBlock_miss (by decide) ?_)
      | (with_reducible refine awp_ret ?_)
      | (with_reducible refine awp_exit ?_)
      | (with_reducible refine post_ret ?_)
      | (with_reducible refine post_normal ?_)
      | (with_reducible refine awp_block ?_)
      | (with_reducible refine v_reg [] (fun K hK => ?_))
      | (with_reducible refine v_reg1 [] (fun K hK => ?_))
      | (with_reducible refine v_draw mixed [] [] (by kernel_rfl) (fun K hK => ?_))
      | (with_reducible refine v_draw1 mixed [] [] (by kernel_rfl) (fun K hK => ?_))
      | (with_reducible refine ev_nil (hK _ _ ?_); clear hK K)
      | (with_reducible refine ed_nil (hK _ _ ?_); clear hK K)
      | ((first | with_reducible refine ev_cons (fun K' hK' => ?_) | with_reducible refine ed_cons (fun K' hK' => ?_) | (with_reducible refine ev_id ?_; refine ev_guard rfl (fun K' hK' => ?_)) | (with_reducible refine ed_id ?_; refine ed_guard rfl (fun K' hK' => ?_))); simp [h5, h0, h1, ints, hlt]; repeat' (first | (with_reducible refine hK' _ _ ?_; clear hK' K') | (with_reducible refine And.intro ?_ ?_) | (with_reducible intro hg) | (clear hK' K'; omega)))
      | (with_reducible refine w_cond (fun A B hA hB => ?_); simp [h5, h0, h1, ints, hlt]; repeat' (first | (with_reducible refine hA ?_; clear hA hB A B) | (with_reducible refine hB ?_; clear hA hB A B) | (with_reducible refine And.intro ?_ ?_) | (with_reducible intro hc)))
      | (with_reducible refine awp_seq ?_))
    · subst hc
      simp
    · refine ⟨⟨n + 1, ?_⟩, ?_⟩
      · have ht' : x ∉ l.take (n + 1) := by rw [List.take_succ_eq_append_getElem hlt]; simp only [List.mem_append, List.mem_singleton]; rintro (h | h); (· exact ht h); (· exact hc h.symm)
        refine ⟨by omega, by simp, by simp [h0], by simp [h1], ht', rfl⟩
      · simp; omega
  · have : n = l.length := by omega
    subst this
    repeat' (first
      | (with_reducible refine awp_skip ?_)
      | (with_reducible refine then_any ?_)
      | (with_reducible refine then_ret ?_)
      | (with_reducible refine then_exit ?_)
      | (with_reducible refine inBlock_normal ?_)
      | (with_reducible refine inBlock_ret ?_)
      | (with_reducible refine inBlock_hit ?_)
      | (with_reducible refine inBlock_miss (by decide) ?_)
      | (with_reducible refine awp_ret ?_)
      | (with_reducible refine awp_exit ?_)
      | (with_reducible refine post_ret ?_)
      | (with_reducible refine post_normal ?_)
      | (with_reducible refine awp_block ?_)
      | (with_reducible refine v_reg [] (fun K hK => ?_))
      | (with_reducible refine v_reg1 [] (fun K hK => ?_))
      | (with_reducible refine v_draw mixed [] [] (by kernel_rfl) (fun K hK => ?_))
      | (with_reducible refine v_draw1 mixed [] [] (by kernel_rfl) (fun K hK => ?_))
      | (with_reducible refine ev_nil (hK _ _ ?_); clear hK K)
      | (with_reducible refine ed_nil (hK _ _ ?_); clear hK K)
      | ((first | with_reducible refine ev_cons (fun K' hK' => ?_) | with_reducible refine ed_cons (fun K' hK' => ?_) | (with_reducible refine ev_id ?_; refine ev_guard rfl (fun K' hK' => ?_)) | (with_reducible refine ed_id ?_; refine ed_guard rfl (fun K' hK' => ?_))); simp [h5, h0, h1, ints]; repeat' (first | (with_reducible refine hK' _ _ ?_; clear hK' K') | (with_reducible refine And.intro ?_ ?_) | (with_reducible intro hg) | (clear hK' K'; omega)))
      | (with_reducible refine w_cond (fun A B hA hB => ?_); simp [h5, h0, h1, ints]; repeat' (first | (with_reducible refine hA ?_; clear hA hB A B) | (with_reducible refine hB ?_; clear hA hB A B) | (with_reducible refine And.intro ?_ ?_) | (with_reducible intro hc)))
      | (with_reducible refine awp_seq ?_))
    simpa using ht

/-- Rises, by looking back. -/
theorem risesB_snoc {l : List Int} {last x : Int} : risesB last (l ++ [x]) = (risesB last l && decide (l.getLast?.getD last < x) && decide (x ≤ 1099511627776)) := by
  induction l generalizing last with
  | nil => simp only [List.nil_append, risesB, Bool.true_and, Bool.and_true]; rfl
  | cons y l ih =>
    rw [List.cons_append, risesB, ih, risesB]
    have : (y :: l).getLast?.getD last = l.getLast?.getD y := by simp [List.getLast?_cons]
    rw [this]
    simp only [Bool.and_assoc]

theorem risesB_above {l : List Int} {last : Int} (h : risesB last l = true) : ∀ x ∈ l, last < x ∧ x ≤ 1099511627776 := by
  induction l generalizing last with
  | nil => simp
  | cons y l ih =>
    simp [risesB] at h
    intro x hx
    rcases List.mem_cons.1 hx with rfl | hx
    · exact ⟨h.1.1, h.1.2⟩
    · have := ih h.2 x hx; omega

theorem risesB_take {l : List Int} {last : Int} {n : Nat} (h : risesB last l = true) : risesB last (l.take n) = true := by
  induction l generalizing last n with
  | nil => simpa using h
  | cons x l ih =>
    cases n with
    | zero => simp [risesB]
    | succ n =>
      simp [risesB] at h ⊢
      exact ⟨h.1, ih h.2⟩

theorem may2_ret {l : List Int} (hl : okLen l) : Ret Try.prog w0 42 [ints l] (B (risesB (-1) l)) := by
  intro H
  refine w_enter Try.func42 rfl Try.ntmps42 (ts := [2]) rfl (by simp) (by kernel_rfl) ?_
  repeat' (first
    | (with_reducible refine awp_skip ?_)
    | (with_reducible refine then_any ?_)
    | (with_reducible refine then_ret ?_)
    | (with_reducible refine then_exit ?_)
    | (with_reducible refine inBlock_normal ?_)
    | (with_reducible refine inBlock_ret ?_)
    | (with_reducible refine inBlock_hit ?_)
    | (with_reducible refine inBlock_miss (by decide) ?_)
    | (with_reducible refine awp_ret ?_)
    | (with_reducible refine awp_exit ?_)
    | (with_reducible refine post_ret ?_)
    | (with_reducible refine post_normal ?_)
    | (with_reducible refine awp_block ?_)
    | (with_reducible refine v_reg [] (fun K hK => ?_))
    | (with_reducible refine v_reg1 [] (fun K hK => ?_))
    | (with_reducible refine v_draw mixed [] [] (by kernel_rfl) (fun K hK => ?_))
    | (with_reducible refine v_draw1 mixed [] [] (by kernel_rfl) (fun K hK => ?_))
    | (with_reducible refine ev_nil (hK _ _ ?_); clear hK K)
    | (with_reducible refine ed_nil (hK _ _ ?_); clear hK K)
    | ((first | with_reducible refine ev_cons (fun K' hK' => ?_) | with_reducible refine ed_cons (fun K' hK' => ?_) | (with_reducible refine ev_id ?_; refine ev_guard rfl (fun K' hK' => ?_)) | (with_reducible refine ed_id ?_; refine ed_guard rfl (fun K' hK' => ?_))); simp [ints]; repeat' (first | (with_reducible refine hK' _ _ ?_; clear hK' K') | (with_reducible refine And.intro ?_ ?_) | (with_reducible intro hg) | (clear hK' K'; omega)))
    | (with_reducible refine w_cond (fun A B hA hB => ?_); simp [ints]; repeat' (first | (with_reducible refine hA ?_; clear hA hB A B) | (with_reducible refine hB ?_; clear hA hB A B) | (with_reducible refine And.intro ?_ ?_) | (with_reducible intro hc)))
    | (with_reducible refine awp_seq ?_))
  refine awp_loop (fun env h => ∃ (k : Nat), k ≤ l.length ∧ env 3 = I k ∧ env 0 = ints l ∧ risesB (-1) (l.take k) = true ∧ h = H) (fun env _ => l.length - natA (env 3)) ?_ ?_
  · exact ⟨0, by simp [ints, upd_get, risesB]⟩
  rintro env h ⟨n, hn, h3, h0, ht, rfl⟩
  have hnat : natA (env 3) = n := by simp [h3]
  rw [hnat]; clear hnat
  by_cases hlt : n < l.length
  · have hs : risesB (-1) (l.take (n + 1)) = (risesB (-1) (l.take n) && decide ((l.take n).getLast?.getD (-1) < l[n]) && decide (l[n] ≤ 1099511627776)) := by
      rw [List.take_succ_eq_append_getElem hlt, risesB_snoc]
    have hno : ¬ (risesB (-1) (l.take (n + 1)) = true) → risesB (-1) l = false := by
      intro h
      cases e : risesB (-1) l with
      | false => rfl
      | true => exact absurd (risesB_take e) h
    have hlast : ∀ h : 0 < n, (l.take n).getLast?.getD (-1) = l[n - 1] := by
      intro h
      rw [List.getLast?_eq_getElem?, List.length_take, List.getElem?_take]
      have : min n l.length - 1 = n - 1 := by omega
      rw [this, if_pos (by omega)]
      simp [show n - 1 < l.length by omega]
    have hpos : ∀ h : 0 < n, 0 ≤ l[n - 1] := by
      intro h
      have := risesB_above ht l[n - 1] (by rw [List.mem_take_iff_getElem]; exact ⟨n - 1, by omega, rfl⟩)
      omega
    have hz : n = 0 → (l.take n).getLast?.getD (-1) = -1 := by intro h; subst h; rfl
    rw [ht] at hs
    have hbad : ∀ h : (l[n] < 0 ∨ 1099511627776 < l[n] ∨ 0 < n ∧ ∃ q : n - 1 < l.length, l[n] ≤ l[n - 1]), risesB (-1) l = false := by
      intro h
      apply hno
      rw [hs]
      simp only [Bool.true_and, Bool.and_eq_true, decide_eq_true_eq, not_and]
      by_cases hn0 : n = 0
      · rw [hz hn0]; omega
      · rw [hlast (by omega)]; have := hpos (by omega); rcases h with h | h | ⟨_, _, h⟩ <;> omega
    have hgood : 0 ≤ l[n] → l[n] ≤ 1099511627776 → (∀ q : 0 < n, l[n - 1] < l[n]) → risesB (-1) (l.take (n + 1)) = true := by
      intro h1 h2 h3
      rw [hs]
      simp only [Bool.true_and, Bool.and_eq_true, decide_eq_true_eq]
      by_cases hn0 : n = 0
      · rw [hz hn0]; omega
      · rw [hlast (by omega)]; exact ⟨h3 (by omega), h2⟩
    clear hs hno hlast hpos hz
    cases n with
    | zero =>
      repeat' (first
        | (with_reducible refine awp_skip ?_)
        | (with_reducible refine then_any ?_)
        | (with_reducible refine then_ret ?_)
        | (with_reducible refine then_exit ?_)
        | (with_reducible refine inBlock_normal ?_)
        | (with_reducible refine inBlock_ret ?_)
        | (with_reducible refine inBlock_hit ?_)
        | (with_reducible refine inBlock_miss (by decide) ?_)
        | (with_reducible refine awp_ret ?_)
        | (with_reducible refine awp_exit ?_)
        | (with_reducible refine post_ret ?_)
        | (with_reducible refine post_normal ?_)
        | (with_reducible refine awp_block ?_)
        | (with_reducible refine v_reg [] (fun K hK => ?_))
        | (with_reducible refine v_reg1 [] (fun K hK => ?_))
        | (with_reducible refine v_draw mixed [] [] (by kernel_rfl) (fun K hK => ?_))
        | (with_reducible refine v_draw1 mixed [] [] (by kernel_rfl) (fun K hK => ?_))
        | (with_reducible refine ev_nil (hK _ _ ?_); clear hK K)
        | (with_reducible refine ed_nil (hK _ _ ?_); clear hK K)
        | ((first | with_reducible refine ev_cons (fun K' hK' => ?_) | with_reducible refine ed_cons (fun K' hK' => ?_) | (with_reducible refine ev_id ?_; refine ev_guard rfl (fun K' hK' => ?_)) | (with_reducible refine ed_id ?_; refine ed_guard rfl (fun K' hK' => ?_))); simp [h3, h0, ints, hlt]; repeat' (first | (with_reducible refine hK' _ _ ?_; clear hK' K') | (with_reducible refine And.intro ?_ ?_) | (with_reducible intro hg) | (clear hK' K'; omega)))
        | (with_reducible refine w_cond (fun A B hA hB => ?_); simp [h3, h0, ints, hlt]; repeat' (first | (with_reducible refine hA ?_; clear hA hB A B) | (with_reducible refine hB ?_; clear hA hB A B) | (with_reducible refine And.intro ?_ ?_) | (with_reducible intro hc)))
        | (with_reducible refine awp_seq ?_))
      · exact ⟨⟨1, by omega, by simp, by simp [h0], hgood ‹_› ‹_› (by omega), rfl⟩, by simp; omega⟩
      all_goals have hb := hbad (by omega); simp [hb]
    | succ m =>
      have hm : m < l.length := by omega
      repeat' (first
        | (with_reducible refine awp_skip ?_)
        | (with_reducible refine then_any ?_)
        | (with_reducible refine then_ret ?_)
        | (with_reducible refine then_exit ?_)
        | (with_reducible refine inBlock_normal ?_)
        | (with_reducible refine inBlock_ret ?_)
        | (with_reducible refine inBlock_hit ?_)
        | (with_reducible refine inBlock_miss (by decide) ?_)
        | (with_reducible refine awp_ret ?_)
        | (with_reducible refine awp_exit ?_)
        | (with_reducible refine post_ret ?_)
        | (with_reducible refine post_normal ?_)
        | (with_reducible refine awp_block ?_)
        | (with_reducible refine v_reg [] (fun K hK => ?_))
        | (with_reducible refine v_reg1 [] (fun K hK => ?_))
        | (with_reducible refine v_draw mixed [] [] (by kernel_rfl) (fun K hK => ?_))
        | (with_reducible refine v_draw1 mixed [] [] (by kernel_rfl) (fun K hK => ?_))
        | (with_reducible refine ev_nil (hK _ _ ?_); clear hK K)
        | (with_reducible refine ed_nil (hK _ _ ?_); clear hK K)
        | ((first | with_reducible refine ev_cons (fun K' hK' => ?_) | with_reducible refine ed_cons (fun K' hK' => ?_) | (with_reducible refine ev_id ?_; refine ev_guard rfl (fun K' hK' => ?_)) | (with_reducible refine ed_id ?_; refine ed_guard rfl (fun K' hK' => ?_))); simp [h3, h0, ints, hlt, hm]; repeat' (first | (with_reducible refine hK' _ _ ?_; clear hK' K') | (with_reducible refine And.intro ?_ ?_) | (with_reducible intro hg) | (clear hK' K'; omega)))
        | (with_reducible refine w_cond (fun A B hA hB => ?_); simp [h3, h0, ints, hlt, hm]; repeat' (first | (with_reducible refine hA ?_; clear hA hB A B) | (with_reducible refine hB ?_; clear hA hB A B) | (with_reducible refine And.intro ?_ ?_) | (with_reducible intro hc)))
        | (with_reducible refine awp_seq ?_))
      all_goals first
        | (exfalso; omega)
        | (have hb := hbad (by first | omega | exact .inr (.inr ⟨by omega, hm, by simpa using by assumption⟩)); simp [hb]; done)
        | exact ⟨⟨m + 2, by omega, by simp; omega, by simp [h0], hgood ‹_› ‹_› (fun _ => by simp; omega), rfl⟩, by simp; omega⟩
  · have : n = l.length := by omega
    subst this
    repeat' (first
      | (with_reducible refine awp_skip ?_)
      | (with_reducible refine then_any ?_)
      | (with_reducible refine then_ret ?_)
      | (with_reducible refine then_exit ?_)
      | (with_reducible refine inBlock_normal ?_)
      | (with_reducible refine inBlock_ret ?_)
      | (with_reducible refine inBlock_hit ?_)
      | (with_reducible refine inBlock_miss (by decide) ?_)
      | (with_reducible refine awp_ret ?_)
      | (with_reducible refine awp_exit ?_)
      | (with_reducible refine post_ret ?_)
      | (with_reducible refine post_normal ?_)
      | (with_reducible refine awp_block ?_)
      | (with_reducible refine v_reg [] (fun K hK => ?_))
      | (with_reducible refine v_reg1 [] (fun K hK => ?_))
      | (with_reducible refine v_draw mixed [] [] (by kernel_rfl) (fun K hK => ?_))
      | (with_reducible refine v_draw1 mixed [] [] (by kernel_rfl) (fun K hK => ?_))
      | (with_reducible refine ev_nil (hK _ _ ?_); clear hK K)
      | (with_reducible refine ed_nil (hK _ _ ?_); clear hK K)
      | ((first | with_reducible refine ev_cons (fun K' hK' => ?_) | with_reducible refine ed_cons (fun K' hK' => ?_) | (with_reducible refine ev_id ?_; refine ev_guard rfl (fun K' hK' => ?_)) | (with_reducible refine ed_id ?_; refine ed_guard rfl (fun K' hK' => ?_))); simp [h3, h0, ints]; repeat' (first | (with_reducible refine hK' _ _ ?_; clear hK' K') | (with_reducible refine And.intro ?_ ?_) | (with_reducible intro hg) | (clear hK' K'; omega)))
      | (with_reducible refine w_cond (fun A B hA hB => ?_); simp [h3, h0, ints]; repeat' (first | (with_reducible refine hA ?_; clear hA hB A B) | (with_reducible refine hB ?_; clear hA hB A B) | (with_reducible refine And.intro ?_ ?_) | (with_reducible intro hc)))
      | (with_reducible refine awp_seq ?_))
    rw [List.take_length] at ht
    simp [ht]
#print axioms in_ret
end Go.Am

namespace Go.Am
open Go Go.Proofs
set_option linter.unusedVariables false
set_option linter.unusedSimpArgs false
variable {w0 : World}
attribute [local irreducible] AWP ACalls
attribute [local congr] acalls_congr

theorem has2_ret {l : List Int} {x : Int} (hl : okLen l) : Ret Try.prog w0 23 [ints l, I x] (B (risesB (-1) l && decide (x ∈ l))) := by
  intro H
  refine w_enter Try.func23 rfl Try.ntmps23 (ts := [4]) rfl (by simp) (by kernel_rfl) ?_
  repeat' (first
    | (with_reducible refine awp_skip ?_)
    | (with_reducible refine then_any ?_)
    | (with_reducible refine then_ret ?_)
    | (with_reducible refine then_exit ?_)
    | (with_reducible refine inBlock_normal ?_)
    | (with_reducible refine inBlock_ret ?_)
    | (with_reducible refine inBlock_hit ?_)
    | (with_reducible refine inBlock_miss (by decide) ?_)
    | (with_reducible refine awp_ret ?_)
    | (with_reducible refine awp_exit ?_)
    | (with_reducible refine post_ret ?_)
    | (with_reducible refine post_normal ?_)
    | (with_reducible refine awp_block ?_)
    | (with_reducible refine v_reg [] (fun K hK => ?_))
    | (with_reducible refine v_reg1 [] (fun K hK => ?_))
    | (with_reducible refine v_draw mixed [] [] (by kernel_rfl) (fun K hK => ?_))
    | (with_reducible refine v_draw1 mixed [] [] (by kernel_rfl) (fun K hK => ?_))
    | (with_reducible refine ev_nil (hK _ _ ?_); clear hK K)
    | (with_reducible refine ed_nil (hK _ _ ?_); clear hK K)
    | ((first | with_reducible refine ev_cons (fun K' hK' => ?_) | with_reducible refine ed_cons (fun K' hK' => ?_) | (with_reducible refine ev_id ?_; refine ev_guard rfl (fun K' hK' => ?_)) | (with_reducible refine ed_id ?_; refine ed_guard rfl (fun K' hK' => ?_))); simp [ints]; repeat' (first | (with_reducible refine hK' _ _ ?_; clear hK' K') | (with_reducible refine Ret.use (may2_ret hl) ?_; try simp [ints]) | (with_reducible refine Ret.use (in_ret hl) ?_; try simp [ints]) | (with_reducible refine And.intro ?_ ?_) | (with_reducible intro hg) | (clear hK' K'; omega)))
    | (with_reducible refine w_cond (fun A B hA hB => ?_); simp [ints]; repeat' (first | (with_reducible refine hA ?_; clear hA hB A B) | (with_reducible refine hB ?_; clear hA hB A B) | (with_reducible refine And.intro ?_ ?_) | (with_reducible intro hc)))
    | (with_reducible refine awp_seq ?_))
  all_goals simp_all

/-- Few enough to be put together. -/
abbrev smLen {α : Type} (l : List α) : Prop := l.length ≤ 1099511627776

theorem meet2_ret {a b : List Int} (ha : smLen a) (hb : okLen b) : Ret Try.prog w0 46 [ints a, ints b] (ints (if risesB (-1) a && risesB (-1) b then a.filter (· ∈ b) else [])) := by
  intro H
  have ha' : okLen a := by omega
  refine w_enter Try.func46 rfl Try.ntmps46 (ts := [4]) rfl (by simp) (by kernel_rfl) ?_ |> ret_frz
  repeat' (first
    | (with_reducible refine awp_skip ?_)
    | (with_reducible refine then_any ?_)
    | (with_reducible refine then_ret ?_)
    | (with_reducible refine then_exit ?_)
    | (with_reducible refine inBlock_normal ?_)
    | (with_reducible refine inBlock_ret ?_)
    | (with_reducible refine inBlock_hit ?_)
    | (with_reducible refine inBlock_miss (by decide) ?_)
    | (with_reducible refine awp_ret ?_)
    | (with_reducible refine awp_exit ?_)
    | (with_reducible refine post_ret ?_)
    | (with_reducible refine post_normal ?_)
    | (with_reducible refine awp_block ?_)
    | (with_reducible refine v_reg [7] (fun K hK => ?_))
    | (with_reducible refine v_reg1 [7] (fun K hK => ?_))
    | (with_reducible refine v_draw mixed [7] [] (by kernel_rfl) (fun K hK => ?_))
    | (with_reducible refine v_draw1 mixed [7] [] (by kernel_rfl) (fun K hK => ?_))
    | (with_reducible refine ev_nil (hK _ _ ?_); clear hK K)
    | (with_reducible refine ed_nil (hK _ _ ?_); clear hK K)
    | ((first | with_reducible refine ev_cons (fun K' hK' => ?_) | with_reducible refine ed_cons (fun K' hK' => ?_) | (with_reducible refine ev_id ?_; refine ev_guard rfl (fun K' hK' => ?_)) | (with_reducible refine ed_id ?_; refine ed_guard rfl (fun K' hK' => ?_))); simp [ints]; repeat' (first | (with_reducible refine hK' _ _ ?_; clear hK' K') | (with_reducible refine And.intro ?_ ?_) | (with_reducible intro hg) | (clear hK' K'; omega)))
    | (with_reducible refine w_cond (fun A B hA hB => ?_); simp [ints]; repeat' (first | (with_reducible refine hA ?_; clear hA hB A B) | (with_reducible refine hB ?_; clear hA hB A B) | (with_reducible refine And.intro ?_ ?_) | (with_reducible intro hc)))
    | (with_reducible refine awp_seq ?_))
  rename_i r
  have hr : H r = none := hg
  clear hg
  have hlen : ∀ n, ((a.take n).filter (· ∈ b)).length ≤ n := fun n => Nat.le_trans (List.length_filter_le _ _) (by simp; omega)
  refine awp_loop (fun env h => ∃ (k : Nat), k ≤ a.length ∧ (k ≠ 0 → (risesB (-1) a && risesB (-1) b) = true) ∧ env 6 = I k ∧ env 0 = ints a ∧ env 1 = ints b ∧ 
      env 5 = .ref r 0 ((a.take k).filter (· ∈ b)).length ((a.take k).filter (· ∈ b)).length ∧ h = upd H r (some (.arr 1 3 (((a.take k).filter (· ∈ b)).map I) ((a.take k).filter (· ∈ b)).length))) (fun env _ => a.length - natA (env 6)) ?_ ?_
  · exact ⟨0, by simp [ints, upd_get]⟩
  rintro env h ⟨n, hn, hm, h6, h0, h1, h5, rfl⟩
  have hnat : natA (env 6) = n := by simp [h6]
  rw [hnat]; clear hnat
  have hln := hlen n
  by_cases hlt : n < a.length
  · have hf : (a.take (n + 1)).filter (· ∈ b) = (a.take n).filter (· ∈ b) ++ if a[n] ∈ b then [a[n]] else [] := by
      rw [List.take_succ_eq_append_getElem hlt, List.filter_append]; simp [List.filter_cons]
    generalize hout : (a.take n).filter (· ∈ b) = out at *
    repeat' (first
      | (with_reducible refine awp_skip ?_)
      | (with_reducible refine then_any ?_)
      | (with_reducible refine then_ret ?_)
      | (with_reducible refine then_exit ?_)
      | (with_reducible refine inBlock_normal ?_)
      | (with_reducible refine inBlock_ret ?_)
      | (with_reducible refine inBlock_hit ?_)
      | (with_reducible refine inBlock_miss (by decide) ?_)
      | (with_reducible refine awp_ret ?_)
      | (with_reducible refine awp_exit ?_)
      | (with_reducible refine post_ret ?_)
      | (with_reducible refine post_normal ?_)
      | (with_reducible refine awp_block ?_)
      | (with_reducible refine v_reg [] (fun K hK => ?_))
      | (with_reducible refine v_reg1 [] (fun K hK => ?_))
      | (with_reducible refine v_draw mixed [] [] (by kernel_rfl) (fun K hK => ?_))
      | (with_reducible refine v_draw1 mixed [] [] (by kernel_rfl) (fun K hK => ?_))
      | (with_reducible refine ev_nil (hK _ _ ?_); clear hK K)
      | (with_reducible refine ed_nil (hK _ _ ?_); clear hK K)
      | ((first | with_reducible refine ev_cons (fun K' hK' => ?_) | with_reducible refine ed_cons (fun K' hK' => ?_) | (with_reducible refine ev_id ?_; refine ev_guard rfl (fun K' hK' => ?_)) | (with_reducible refine ed_id ?_; refine ed_guard rfl (fun K' hK' => ?_))); simp [h6, h0, h1, h5, ints, hlt]; repeat' (first | (with_reducible refine hK' _ _ ?_; clear hK' K') | (with_reducible refine Ret.use (may2_ret ha') ?_; try simp [h6, h0, h1, h5, ints, hlt]) | (with_reducible refine Ret.use (may2_ret hb) ?_; try simp [h6, h0, h1, h5, ints, hlt]) | (with_reducible refine Ret.use (in_ret hb) ?_; try simp [h6, h0, h1, h5, ints, hlt]) | (with_reducible refine And.intro ?_ ?_) | (with_reducible intro hg) | (clear hK' K'; omega)))
      | (with_reducible refine w_cond (fun A B hA hB => ?_); simp [h6, h0, h1, h5, ints, hlt]; repeat' (first | (with_reducible refine hA ?_; clear hA hB A B) | (with_reducible refine hB ?_; clear hA hB A B) | (with_reducible refine And.intro ?_ ?_) | (with_reducible intro hc)))
      | (with_reducible refine awp_seq ?_))
    · rw [if_pos hc] at hf
      refine ⟨⟨n + 1, by omega, fun _ => by simp [*], by simp, by simp [h0], by simp [h1], ?_, ?_⟩, by simp; omega⟩
      · simp [hf]
      · simp [hf, upd_upd]
    · rw [if_neg hc] at hf
      refine ⟨⟨n + 1, by omega, fun _ => by simp [*], by simp, by simp [h0], by simp [h1], ?_, ?_⟩, by simp; omega⟩
      · simp [hf, h5]
      · simp [hf]
    all_goals
      have h00 : n = 0 := by
        cases n with
        | zero => rfl
        | succ m => have := hm (by omega); simp [*] at this
      subst h00
      have ho : out = [] := by rw [← hout]; rfl
      exact frz hr (by simp) rfl (by simp [*])
  · have : n = a.length := by omega
    subst this
    repeat' (first
      | (with_reducible refine awp_skip ?_)
      | (with_reducible refine then_any ?_)
      | (with_reducible refine then_ret ?_)
      | (with_reducible refine then_exit ?_)
      | (with_reducible refine inBlock_normal ?_)
      | (with_reducible refine inBlock_ret ?_)
      | (with_reducible refine inBlock_hit ?_)
      | (with_reducible refine inBlock_miss (by decide) ?_)
      | (with_reducible refine awp_ret ?_)
      | (with_reducible refine awp_exit ?_)
      | (with_reducible refine post_ret ?_)
      | (with_reducible refine post_normal ?_)
      | (with_reducible refine awp_block ?_)
      | (with_reducible refine v_reg [] (fun K hK => ?_))
      | (with_reducible refine v_reg1 [] (fun K hK => ?_))
      | (with_reducible refine v_draw mixed [] [] (by kernel_rfl) (fun K hK => ?_))
      | (with_reducible refine v_draw1 mixed [] [] (by kernel_rfl) (fun K hK => ?_))
      | (with_reducible refine ev_nil (hK _ _ ?_); clear hK K)
      | (with_reducible refine ed_nil (hK _ _ ?_); clear hK K)
      | ((first | with_reducible refine ev_cons (fun K' hK' => ?_) | with_reducible refine ed_cons (fun K' hK' => ?_) | (with_reducible refine ev_id ?_; refine ev_guard rfl (fun K' hK' => ?_)) | (with_reducible refine ed_id ?_; refine ed_guard rfl (fun K' hK' => ?_))); simp [h6, h0, h1, h5, ints]; repeat' (first | (with_reducible refine hK' _ _ ?_; clear hK' K') | (with_reducible refine And.intro ?_ ?_) | (with_reducible intro hg) | (clear hK' K'; omega)))
      | (with_reducible refine w_cond (fun A B hA hB => ?_); simp [h6, h0, h1, h5, ints]; repeat' (first | (with_reducible refine hA ?_; clear hA hB A B) | (with_reducible refine hB ?_; clear hA hB A B) | (with_reducible refine And.intro ?_ ?_) | (with_reducible intro hc)))
      | (with_reducible refine awp_seq ?_))
    refine frz hr (by simp) rfl ?_
    by_cases h0 : a = []
    · subst h0; simp
    · rw [if_pos (hm (by simp [h0]))]
      simp

theorem sub2_ret {a b : List Int} (ha : okLen a) (hb : okLen b) : Ret Try.prog w0 28 [ints a, ints b] (B (risesB (-1) a && risesB (-1) b && a.all fun x => decide (x ∈ b))) := by
  intro H
  refine w_enter Try.func28 rfl Try.ntmps28 (ts := [4]) rfl (by simp) (by kernel_rfl) ?_
  repeat' (first
    | (with_reducible refine awp_skip ?_)
    | (with_reducible refine then_any ?_)
    | (with_reducible refine then_ret ?_)
    | (with_reducible refine then_exit ?_)
    | (with_reducible refine inBlock_normal ?_)
    | (with_reducible refine inBlock_ret ?_)
    | (with_reducible refine inBlock_hit ?_)
    | (with_reducible refine inBlock_miss (by decide) ?_)
    | (with_reducible refine awp_ret ?_)
    | (with_reducible refine awp_exit ?_)
    | (with_reducible refine post_ret ?_)
    | (with_reducible refine post_normal ?_)
    | (with_reducible refine awp_block ?_)
    | (with_reducible refine v_reg [] (fun K hK => ?_))
    | (with_reducible refine v_reg1 [] (fun K hK => ?_))
    | (with_reducible refine v_draw mixed [] [] (by kernel_rfl) (fun K hK => ?_))
    | (with_reducible refine v_draw1 mixed [] [] (by kernel_rfl) (fun K hK => ?_))
    | (with_reducible refine ev_nil (hK _ _ ?_); clear hK K)
    | (with_reducible refine ed_nil (hK _ _ ?_); clear hK K)
    | ((first | with_reducible refine ev_cons (fun K' hK' => ?_) | with_reducible refine ed_cons (fun K' hK' => ?_) | (with_reducible refine ev_id ?_; refine ev_guard rfl (fun K' hK' => ?_)) | (with_reducible refine ed_id ?_; refine ed_guard rfl (fun K' hK' => ?_))); simp [ints]; repeat' (first | (with_reducible refine hK' _ _ ?_; clear hK' K') | (with_reducible refine And.intro ?_ ?_) | (with_reducible intro hg) | (clear hK' K'; omega)))
    | (with_reducible refine w_cond (fun A B hA hB => ?_); simp [ints]; repeat' (first | (with_reducible refine hA ?_; clear hA hB A B) | (with_reducible refine hB ?_; clear hA hB A B) | (with_reducible refine And.intro ?_ ?_) | (with_reducible intro hc)))
    | (with_reducible refine awp_seq ?_))
  refine awp_loop (fun env h => ∃ (k : Nat), k ≤ a.length ∧ env 5 = I k ∧ env 0 = ints a ∧ env 1 = ints b ∧ ((a.take k).all fun x => decide (x ∈ b)) = true ∧ h = H) (fun env _ => a.length - natA (env 5)) ?_ ?_
  · exact ⟨0, by simp [ints, upd_get]⟩
  rintro env h ⟨n, hn, h5, h0, h1, ht, rfl⟩
  have hnat : natA (env 5) = n := by simp [h5]
  rw [hnat]; clear hnat
  by_cases hlt : n < a.length
  · have hf : ((a.take (n + 1)).all fun x => decide (x ∈ b)) = decide (a[n] ∈ b) := by
      rw [List.take_succ_eq_append_getElem hlt, List.all_append, ht]; simp
    repeat' (first
      | (with_reducible refine awp_skip ?_)
      | (with_reducible refine then_any ?_)
      | (with_reducible refine then_ret ?_)
      | (with_reducible refine then_exit ?_)
      | (with_reducible refine inBlock_normal ?_)
      | (with_reducible refine inBlock_ret ?_)
      | (with_reducible refine inBlock_hit ?_)
      | (with_reducible refine inBlock_miss (by decide) ?_)
      | (with_reducible refine awp_ret ?_)
      | (with_reducible refine awp_exit ?_)
      | (with_reducible refine post_ret ?_)
      | (with_reducible refine post_normal ?_)
      | (with_reducible refine awp_block ?_)
      | (with_reducible refine v_reg [] (fun K hK => ?_))
      | (with_reducible refine v_reg1 [] (fun K hK => ?_))
      | (with_reducible refine v_draw mixed [] [] (by kernel_rfl) (fun K hK => ?_))
      | (with_reducible refine v_draw1 mixed [] [] (by kernel_rfl) (fun K hK => ?_))
      | (with_reducible refine ev_nil (hK _ _ ?_); clear hK K)
      | (with_reducible refine ed_nil (hK _ _ ?_); clear hK K)
      | ((first | with_reducible refine ev_cons (fun K' hK' => ?_) | with_reducible refine ed_cons (fun K' hK' => ?_) | (with_reducible refine ev_id ?_; refine ev_guard rfl (fun K' hK' => ?_)) | (with_reducible refine ed_id ?_; refine ed_guard rfl (fun K' hK' => ?_))); simp [h0, h1, h5, ints, hlt]; repeat' (first | (with_reducible refine hK' _ _ ?_; clear hK' K') | (with_reducible refine Ret.use (in_ret hb) ?_; try simp [h0, h1, h5, ints, hlt]) | (with_reducible refine And.intro ?_ ?_) | (with_reducible intro hg) | (clear hK' K'; omega)))
      | (with_reducible refine w_cond (fun A B hA hB => ?_); simp [h0, h1, h5, ints, hlt]; repeat' (first | (with_reducible refine hA ?_; clear hA hB A B) | (with_reducible refine hB ?_; clear hA hB A B) | (with_reducible refine And.intro ?_ ?_) | (with_reducible intro hc)))
      | (with_reducible refine awp_seq ?_))
    · have : (a.all fun x => decide (x ∈ b)) = false := by
        rw [List.all_eq_false]; exact ⟨a[n], by simp, by simpa using hc⟩
      simp [this]
    · exact ⟨⟨n + 1, by omega, by simp, by simp [h0], by simp [h1], by rw [hf]; simp [hc], rfl⟩, by simp; omega⟩
  · have : n = a.length := by omega
    subst this
    rw [List.take_length] at ht
    repeat' (first
      | (with_reducible refine awp_skip ?_)
      | (with_reducible refine then_any ?_)
      | (with_reducible refine then_ret ?_)
      | (with_reducible refine then_exit ?_)
      | (with_reducible refine inBlock_normal ?_)
      | (with_reducible refine inBlock_ret ?_)
      | (with_reducible refine inBlock_hit ?_)
      | (with_reducible refine inBlock_miss (by decide) ?_)
      | (with_reducible refine awp_ret ?_)
      | (with_reducible refine awp_exit ?_)
      | (with_reducible refine post_ret ?_)
      | (with_reducible refine post_normal ?_)
      | (with_reducible refine awp_block ?_)
      | (with_reducible refine v_reg [] (fun K hK => ?_))
      | (with_reducible refine v_reg1 [] (fun K hK => ?_))
      | (with_reducible refine v_draw mixed [] [] (by kernel_rfl) (fun K hK => ?_))
      | (with_reducible refine v_draw1 mixed [] [] (by kernel_rfl) (fun K hK => ?_))
      | (with_reducible refine ev_nil (hK _ _ ?_); clear hK K)
      | (with_reducible refine ed_nil (hK _ _ ?_); clear hK K)
      | ((first | with_reducible refine ev_cons (fun K' hK' => ?_) | with_reducible refine ed_cons (fun K' hK' => ?_) | (with_reducible refine ev_id ?_; refine ev_guard rfl (fun K' hK' => ?_)) | (with_reducible refine ed_id ?_; refine ed_guard rfl (fun K' hK' => ?_))); simp [h0, h1, h5, ints]; repeat' (first | (with_reducible refine hK' _ _ ?_; clear hK' K') | (with_reducible refine Ret.use (may2_ret ha) ?_; try simp [h0, h1, h5, ints]) | (with_reducible refine Ret.use (may2_ret hb) ?_; try simp [h0, h1, h5, ints]) | (with_reducible refine And.intro ?_ ?_) | (with_reducible intro hg) | (clear hK' K'; omega)))
      | (with_reducible refine w_cond (fun A B hA hB => ?_); simp [h0, h1, h5, ints]; repeat' (first | (with_reducible refine hA ?_; clear hA hB A B) | (with_reducible refine hB ?_; clear hA hB A B) | (with_reducible refine And.intro ?_ ?_) | (with_reducible intro hc)))
      | (with_reducible refine awp_seq ?_))
    all_goals simp_all

/-- The numbers below n. -/
def upto (n : Nat) : List Int := (List.range n).map Int.ofNat
@[simp] theorem upto_length (n : Nat) : (upto n).length = n := by simp [upto]
theorem upto_succ (n : Nat) : upto (n + 1) = upto n ++ [(n : Int)] := by simp [upto, List.range_succ]
theorem upto_zero : upto 0 = [] := rfl
theorem upto_get {n k : Nat} (h : k < (upto n).length) : (upto n)[k] = k := by simp [upto]
theorem mem_upto {n : Nat} {x : Int} : x ∈ upto n ↔ 0 ≤ x ∧ x < n := by
  simp only [upto, List.mem_map, List.mem_range]
  constructor
  · rintro ⟨k, hk, rfl⟩; simp only [Int.ofNat_eq_natCast]; omega
  · intro h; exact ⟨x.toNat, by omega, by simp only [Int.ofNat_eq_natCast]; omega⟩
theorem cut_upto (n : Nat) : cut 1 ((upto n).map I) 0 n = ints (upto n) := by
  have := cut_map I (upto n)
  rw [upto_length] at this
  rw [ints, upto_length]; exact this

/-- All numbers below n, if they are not too many. -/
def allL (n : Int) : List Int := if n ≤ 100000 then upto n.toNat else []

end Go.Am

namespace Go.Am
open Go Go.Proofs
set_option linter.unusedVariables false
set_option linter.unusedSimpArgs false
variable {w0 : World}
attribute [local irreducible] AWP ACalls
attribute [local congr] acalls_congr

/-- What is taken of two sets. -/
def mergeL (l r b : Bool) : List Int → List Int → List Int
  | [], [] => []
  | [], y :: bs => if r then y :: mergeL l r b [] bs else mergeL l r b [] bs
  | x :: xs, [] => if l then x :: mergeL l r b xs [] else mergeL l r b xs []
  | x :: xs, y :: bs =>
    if x < y then (if l then x :: mergeL l r b xs (y :: bs) else mergeL l r b xs (y :: bs))
    else if y < x then (if r then y :: mergeL l r b (x :: xs) bs else mergeL l r b (x :: xs) bs)
    else (if b then x :: mergeL l r b xs bs else mergeL l r b xs bs)
termination_by a b => a.length + b.length

theorem merge_ret {a b : List Int} {l r c : Bool} (ha : smLen a) (hb : smLen b) : Ret Try.prog w0 90 [ints a, ints b, B l, B r, B c] (ints (if risesB (-1) a && risesB (-1) b then mergeL l r c a b else [])) := by
  intro H
  have ha' : okLen a := by omega
  have hb' : okLen b := by omega
  refine w_enter Try.func90 rfl Try.ntmps90 (ts := [10]) rfl (by simp) (by kernel_rfl) ?_ |> ret_frz
  repeat' (first
    | (with_reducible refine awp_skip ?_)
    | (with_reducible refine then_any ?_)
    | (with_reducible refine then_ret ?_)
    | (with_reducible refine then_exit ?_)
    | (with_reducible refine inBlock_normal ?_)
    | (with_reducible refine inBlock_ret ?_)
    | (with_reducible refine inBlock_hit ?_)
    | (with_reducible refine inBlock_miss (by decide) ?_)
    | (with_reducible refine awp_ret ?_)
    | (with_reducible refine awp_exit ?_)
    | (with_reducible refine post_ret ?_)
    | (with_reducible refine post_normal ?_)
    | (with_reducible refine awp_block ?_)
    | (with_reducible refine v_reg [11] (fun K hK => ?_))
    | (with_reducible refine v_reg1 [11] (fun K hK => ?_))
    | (with_reducible refine v_draw mixed [11] [] (by kernel_rfl) (fun K hK => ?_))
    | (with_reducible refine v_draw1 mixed [11] [] (by kernel_rfl) (fun K hK => ?_))
    | (with_reducible refine ev_nil (hK _ _ ?_); clear hK K)
    | (with_reducible refine ed_nil (hK _ _ ?_); clear hK K)
    | ((first | with_reducible refine ev_cons (fun K' hK' => ?_) | with_reducible refine ed_cons (fun K' hK' => ?_) | (with_reducible refine ev_id ?_; refine ev_guard rfl (fun K' hK' => ?_)) | (with_reducible refine ed_id ?_; refine ed_guard rfl (fun K' hK' => ?_))); simp [ints]; repeat' (first | (with_reducible refine hK' _ _ ?_; clear hK' K') | (with_reducible refine Ret.use (may_ret ha') ?_; try simp [ints]) | (with_reducible refine Ret.use (may_ret hb') ?_; try simp [ints]) | (with_reducible refine And.intro ?_ ?_) | (with_reducible intro hg) | (clear hK' K'; omega)))
    | (with_reducible refine w_cond (fun A B hA hB => ?_); simp [ints]; repeat' (first | (with_reducible refine hA ?_; clear hA hB A B) | (with_reducible refine hB ?_; clear hA hB A B) | (with_reducible refine And.intro ?_ ?_) | (with_reducible intro hc)))
    | (with_reducible refine awp_seq ?_))
  · exact .inl ⟨by simp [hc], .refl _⟩
  · rename_i hra r' 
    have hr : H r' = none := hg
    clear hg
    rw [hra, hc]
    simp only [Bool.and_self, if_true]
    refine awp_loop (fun env h => ∃ (out a' b' : List Int), out ++ mergeL l r c a' b' = mergeL l r c a b ∧ a'.length ≤ a.length ∧ b'.length ≤ b.length ∧ out.length + a'.length + b'.length ≤ a.length + b.length ∧
       env 0 = ints a' ∧ env 1 = ints b' ∧ env 2 = B l ∧ env 3 = B r ∧ env 4 = B c ∧ env 11 = .ref r' 0 out.length out.length ∧ h = upd H r' (some (.arr 1 3 (out.map I) out.length))) (fun env _ => lenA (env 0) + lenA (env 1)) ?_ ?_
    · exact ⟨[], a, b, rfl, by omega, by omega, by simp, by simp [ints], by simp [ints], by simp, by simp, by simp, by simp, by simp⟩
    rintro env h ⟨out, a', b', ho, hla, hlb, hlo, h0, h1, h2, h3, h4, h11, rfl⟩
    have hm : lenA (env 0) + lenA (env 1) = a'.length + b'.length := by simp [h0, h1, lenA, ints]
    rw [hm]; clear hm
    cases a' with
    | nil =>
      cases b' with
      | nil =>
        repeat' (first
          | (with_reducible refine awp_skip ?_)
          | (with_reducible refine then_any ?_)
          | (with_reducible refine then_ret ?_)
          | (with_reducible refine then_exit ?_)
          | (with_reducible refine inBlock_normal ?_)
          | (with_reducible refine inBlock_ret ?_)
          | (with_reducible refine inBlock_hit ?_)
          | (with_reducible refine inBlock_miss (by decide) ?_)
          | (with_reducible refine awp_ret ?_)
          | (with_reducible refine awp_exit ?_)
          | (with_reducible refine post_ret ?_)
          | (with_reducible refine post_normal ?_)
          | (with_reducible refine awp_block ?_)
          | (with_reducible refine v_reg [] (fun K hK => ?_))
          | (with_reducible refine v_reg1 [] (fun K hK => ?_))
          | (with_reducible refine v_draw mixed [] [] (by kernel_rfl) (fun K hK => ?_))
          | (with_reducible refine v_draw1 mixed [] [] (by kernel_rfl) (fun K hK => ?_))
          | (with_reducible refine ev_nil (hK _ _ ?_); clear hK K)
          | (with_reducible refine ed_nil (hK _ _ ?_); clear hK K)
          | ((first | with_reducible refine ev_cons (fun K' hK' => ?_) | with_reducible refine ed_cons (fun K' hK' => ?_) | (with_reducible refine ev_id ?_; refine ev_guard rfl (fun K' hK' => ?_)) | (with_reducible refine ed_id ?_; refine ed_guard rfl (fun K' hK' => ?_))); simp [h0, h1, h2, h3, h4, h11, ints]; repeat' (first | (with_reducible refine hK' _ _ ?_; clear hK' K') | (with_reducible refine And.intro ?_ ?_) | (with_reducible intro hg) | (clear hK' K'; omega)))
          | (with_reducible refine w_cond (fun A B hA hB => ?_); simp [h0, h1, h2, h3, h4, h11, ints]; repeat' (first | (with_reducible refine hA ?_; clear hA hB A B) | (with_reducible refine hB ?_; clear hA hB A B) | (with_reducible refine And.intro ?_ ?_) | (with_reducible intro hc)))
          | (with_reducible refine awp_seq ?_))
        refine frz hr (by simp) rfl ?_
        rw [mergeL, List.append_nil] at ho
        simp [ho]
      | cons y ys =>
        rw [mergeL] at ho
        simp only [List.length_cons, List.length_nil] at hla hlb hlo
        repeat' (first
          | (with_reducible refine awp_skip ?_)
          | (with_reducible refine then_any ?_)
          | (with_reducible refine then_ret ?_)
          | (with_reducible refine then_exit ?_)
          | (with_reducible refine inBlock_normal ?_)
          | (with_reducible refine inBlock_ret ?_)
          | (with_reducible refine inBlock_hit ?_)
          | (with_reducible refine inBlock_miss (by decide) ?_)
          | (with_reducible refine awp_ret ?_)
          | (with_reducible refine awp_exit ?_)
          | (with_reducible refine post_ret ?_)
          | (with_reducible refine post_normal ?_)
          | (with_reducible refine awp_block ?_)
          | (with_reducible refine v_reg [] (fun K hK => ?_))
          | (with_reducible refine v_reg1 [] (fun K hK => ?_))
          | (with_reducible refine v_draw mixed [] [] (by kernel_rfl) (fun K hK => ?_))
          | (with_reducible refine v_draw1 mixed [] [] (by kernel_rfl) (fun K hK => ?_))
          | (with_reducible refine ev_nil (hK _ _ ?_); clear hK K)
          | (with_reducible refine ed_nil (hK _ _ ?_); clear hK K)
          | ((first | with_reducible refine ev_cons (fun K' hK' => ?_) | with_reducible refine ed_cons (fun K' hK' => ?_) | (with_reducible refine ev_id ?_; refine ev_guard rfl (fun K' hK' => ?_)) | (with_reducible refine ed_id ?_; refine ed_guard rfl (fun K' hK' => ?_))); simp [h0, h1, h2, h3, h4, h11, ints]; repeat' (first | (with_reducible refine hK' _ _ ?_; clear hK' K') | (with_reducible refine And.intro ?_ ?_) | (with_reducible intro hg) | (clear hK' K'; omega)))
          | (with_reducible refine w_cond (fun A B hA hB => ?_); simp [h0, h1, h2, h3, h4, h11, ints]; repeat' (first | (with_reducible refine hA ?_; clear hA hB A B) | (with_reducible refine hB ?_; clear hA hB A B) | (with_reducible refine And.intro ?_ ?_) | (with_reducible intro hc)))
          | (with_reducible refine awp_seq ?_))
        · exact ⟨⟨out ++ [y], [], ys, by simpa [hc] using ho, by (try simp) <;> omega, by (try simp) <;> omega, by (try simp) <;> omega, by simp [h0], by simp [h1], by simp [h2], by simp [h3], by simp [h4], by simp [h11], by simp⟩, by (try simp [lenA, h0, h1]) <;> omega⟩
        · exact ⟨⟨out, [], ys, by simpa [hc] using ho, by (try simp) <;> omega, by (try simp) <;> omega, by (try simp) <;> omega, by simp [h0], by simp [h1], by simp [h2], by simp [h3], by simp [h4], by simp [h11], by simp⟩, by (try simp [lenA, h0, h1]) <;> omega⟩
    | cons x xs =>
      cases b' with
      | nil =>
        rw [mergeL] at ho
        simp only [List.length_cons, List.length_nil] at hla hlb hlo
        repeat' (first
          | (with_reducible refine awp_skip ?_)
          | (with_reducible refine then_any ?_)
          | (with_reducible refine then_ret ?_)
          | (with_reducible refine then_exit ?_)
          | (with_reducible refine inBlock_normal ?_)
          | (with_reducible refine inBlock_ret ?_)
          | (with_reducible refine inBlock_hit ?_)
          | (with_reducible refine inBlock_miss (by decide) ?_)
          | (with_reducible refine awp_ret ?_)
          | (with_reducible refine awp_exit ?_)
          | (with_reducible refine post_ret ?_)
          | (with_reducible refine post_normal ?_)
          | (with_reducible refine awp_block ?_)
          | (with_reducible refine v_reg [] (fun K hK => ?_))
          | (with_reducible refine v_reg1 [] (fun K hK => ?_))
          | (with_reducible refine v_draw mixed [] [] (by kernel_rfl) (fun K hK => ?_))
          | (with_reducible refine v_draw1 mixed [] [] (by kernel_rfl) (fun K hK => ?_))
          | (with_reducible refine ev_nil (hK _ _ ?_); clear hK K)
          | (with_reducible refine ed_nil (hK _ _ ?_); clear hK K)
          | ((first | with_reducible refine ev_cons (fun K' hK' => ?_) | with_reducible refine ed_cons (fun K' hK' => ?_) | (with_reducible refine ev_id ?_; refine ev_guard rfl (fun K' hK' => ?_)) | (with_reducible refine ed_id ?_; refine ed_guard rfl (fun K' hK' => ?_))); simp [h0, h1, h2, h3, h4, h11, ints]; repeat' (first | (with_reducible refine hK' _ _ ?_; clear hK' K') | (with_reducible refine And.intro ?_ ?_) | (with_reducible intro hg) | (clear hK' K'; omega)))
          | (with_reducible refine w_cond (fun A B hA hB => ?_); simp [h0, h1, h2, h3, h4, h11, ints]; repeat' (first | (with_reducible refine hA ?_; clear hA hB A B) | (with_reducible refine hB ?_; clear hA hB A B) | (with_reducible refine And.intro ?_ ?_) | (with_reducible intro hc)))
          | (with_reducible refine awp_seq ?_))
        · exact ⟨⟨out ++ [x], xs, [], by simpa [hc] using ho, by (try simp) <;> omega, by (try simp) <;> omega, by (try simp) <;> omega, by simp [h0], by simp [h1], by simp [h2], by simp [h3], by simp [h4], by simp [h11], by simp⟩, by (try simp [lenA, h0, h1]) <;> omega⟩
        · exact ⟨⟨out, xs, [], by simpa [hc] using ho, by (try simp) <;> omega, by (try simp) <;> omega, by (try simp) <;> omega, by simp [h0], by simp [h1], by simp [h2], by simp [h3], by simp [h4], by simp [h11], by simp⟩, by (try simp [lenA, h0, h1]) <;> omega⟩
      | cons y ys =>
        rw [mergeL] at ho
        simp only [List.length_cons, List.length_nil] at hla hlb hlo
        repeat' (first
          | (with_reducible refine awp_skip ?_)
          | (with_reducible refine then_any ?_)
          | (with_reducible refine then_ret ?_)
          | (with_reducible refine then_exit ?_)
          | (with_reducible refine inBlock_normal ?_)
          | (with_reducible refine inBlock_ret ?_)
          | (with_reducible refine inBlock_hit ?_)
          | (with_reducible refine inBlock_miss (by decide) ?_)
          | (with_reducible refine awp_ret ?_)
          | (with_reducible refine awp_exit ?_)
          | (with_reducible refine post_ret ?_)
          | (with_reducible refine post_normal ?_)
          | (with_reducible refine awp_block ?_)
          | (with_reducible refine v_reg [] (fun K hK => ?_))
          | (with_reducible refine v_reg1 [] (fun K hK => ?_))
          | (with_reducible refine v_draw mixed [] [] (by kernel_rfl) (fun K hK => ?_))
          | (with_reducible refine v_draw1 mixed [] [] (by kernel_rfl) (fun K hK => ?_))
          | (with_reducible refine ev_nil (hK _ _ ?_); clear hK K)
          | (with_reducible refine ed_nil (hK _ _ ?_); clear hK K)
          | ((first | with_reducible refine ev_cons (fun K' hK' => ?_) | with_reducible refine ed_cons (fun K' hK' => ?_) | (with_reducible refine ev_id ?_; refine ev_guard rfl (fun K' hK' => ?_)) | (with_reducible refine ed_id ?_; refine ed_guard rfl (fun K' hK' => ?_))); simp [h0, h1, h2, h3, h4, h11, ints]; repeat' (first | (with_reducible refine hK' _ _ ?_; clear hK' K') | (with_reducible refine And.intro ?_ ?_) | (with_reducible intro hg) | (clear hK' K'; omega)))
          | (with_reducible refine w_cond (fun A B hA hB => ?_); simp [h0, h1, h2, h3, h4, h11, ints]; repeat' (first | (with_reducible refine hA ?_; clear hA hB A B) | (with_reducible refine hB ?_; clear hA hB A B) | (with_reducible refine And.intro ?_ ?_) | (with_reducible intro hc)))
          | (with_reducible refine awp_seq ?_))
        all_goals first
          | (exfalso; omega)
          | exact ⟨⟨out ++ [x], xs, y :: ys, by rw [if_pos (by omega), if_pos hc] at ho; simpa using ho, by (try simp) <;> omega, by (try simp) <;> omega, by (try simp) <;> omega, by simp [h0], by simp [h1], by simp [h2], by simp [h3], by simp [h4], by simp [h11], by simp⟩, by (try simp [lenA, h0, h1]) <;> omega⟩
          | exact ⟨⟨out, xs, y :: ys, by rw [if_pos (by omega), if_neg (by simp [hc])] at ho; simpa using ho, by (try simp) <;> omega, by (try simp) <;> omega, by (try simp) <;> omega, by simp [h0], by simp [h1], by simp [h2], by simp [h3], by simp [h4], by simp [h11], by simp⟩, by (try simp [lenA, h0, h1]) <;> omega⟩
          | exact ⟨⟨out ++ [y], x :: xs, ys, by rw [if_neg (by omega), if_pos (by omega), if_pos hc] at ho; simpa using ho, by (try simp) <;> omega, by (try simp) <;> omega, by (try simp) <;> omega, by simp [h0], by simp [h1], by simp [h2], by simp [h3], by simp [h4], by simp [h11], by simp⟩, by (try simp [lenA, h0, h1]) <;> omega⟩
          | exact ⟨⟨out, x :: xs, ys, by rw [if_neg (by omega), if_pos (by omega), if_neg (by simp [hc])] at ho; simpa using ho, by (try simp) <;> omega, by (try simp) <;> omega, by (try simp) <;> omega, by simp [h0], by simp [h1], by simp [h2], by simp [h3], by simp [h4], by simp [h11], by simp⟩, by (try simp [lenA, h0, h1]) <;> omega⟩
          | exact ⟨⟨out ++ [x], xs, ys, by rw [if_neg (by omega), if_neg (by omega), if_pos hc] at ho; simpa using ho, by (try simp) <;> omega, by (try simp) <;> omega, by (try simp) <;> omega, by simp [h0], by simp [h1], by simp [h2], by simp [h3], by simp [h4], by simp [h11], by simp⟩, by (try simp [lenA, h0, h1]) <;> omega⟩
          | exact ⟨⟨out, xs, ys, by rw [if_neg (by omega), if_neg (by omega), if_neg (by simp [hc])] at ho; simpa using ho, by (try simp) <;> omega, by (try simp) <;> omega, by (try simp) <;> omega, by simp [h0], by simp [h1], by simp [h2], by simp [h3], by simp [h4], by simp [h11], by simp⟩, by (try simp [lenA, h0, h1]) <;> omega⟩
  · exact .inl ⟨by simp [hg], .refl _⟩

end Go.Am

namespace Go.Am
open Go Go.Proofs
set_option linter.unusedVariables false
set_option linter.unusedSimpArgs false
variable {w0 : World}
attribute [local irreducible] AWP ACalls
attribute [local congr] acalls_congr

def unionL (a b : List Int) : List Int := if risesB (-1) a && risesB (-1) b then mergeL true true true a b else []
def meetL (a b : List Int) : List Int := if risesB (-1) a && risesB (-1) b then mergeL false false true a b else []
def minusL (a b : List Int) : List Int := if risesB (-1) a && risesB (-1) b then mergeL true false false a b else []

theorem union_ret {a b : List Int} (ha : smLen a) (hb : smLen b) : Ret Try.prog w0 71 [ints a, ints b] (ints (unionL a b)) := by
  intro H
  refine w_enter Try.func71 rfl Try.ntmps71 (ts := [4]) rfl (by simp) (by kernel_rfl) ?_
  repeat' (first
    | (with_reducible refine awp_skip ?_)
    | (with_reducible refine then_any ?_)
    | (with_reducible refine then_ret ?_)
    | (with_reducible refine then_exit ?_)
    | (with_reducible refine inBlock_normal ?_)
    | (with_reducible refine inBlock_ret ?_)
    | (with_reducible refine inBlock_hit ?_)
    | (with_reducible refine inBlock_miss (by decide) ?_)
    | (with_reducible refine awp_ret ?_)
    | (with_reducible refine awp_exit ?_)
    | (with_reducible refine post_ret ?_)
    | (with_reducible refine post_normal ?_)
    | (with_reducible refine awp_block ?_)
    | (with_reducible refine v_reg [] (fun K hK => ?_))
    | (with_reducible refine v_reg1 [] (fun K hK => ?_))
    | (with_reducible refine v_draw mixed [] [] (by kernel_rfl) (fun K hK => ?_))
    | (with_reducible refine v_draw1 mixed [] [] (by kernel_rfl) (fun K hK => ?_))
    | (with_reducible refine ev_nil (hK _ _ ?_); clear hK K)
    | (with_reducible refine ed_nil (hK _ _ ?_); clear hK K)
    | ((first | with_reducible refine ev_cons (fun K' hK' => ?_) | with_reducible refine ed_cons (fun K' hK' => ?_) | (with_reducible refine ev_id ?_; refine ev_guard rfl (fun K' hK' => ?_)) | (with_reducible refine ed_id ?_; refine ed_guard rfl (fun K' hK' => ?_))); simp [ints]; repeat' (first | (with_reducible refine hK' _ _ ?_; clear hK' K') | (with_reducible refine Ret.use (merge_ret ha hb) ?_; try simp [ints]) | (with_reducible refine And.intro ?_ ?_) | (with_reducible intro hg) | (clear hK' K'; omega)))
    | (with_reducible refine w_cond (fun A B hA hB => ?_); simp [ints]; repeat' (first | (with_reducible refine hA ?_; clear hA hB A B) | (with_reducible refine hB ?_; clear hA hB A B) | (with_reducible refine And.intro ?_ ?_) | (with_reducible intro hc)))
    | (with_reducible refine awp_seq ?_))
  simp [unionL]
theorem isnan_ret {x : Int} : Ret Try.prog w0 105 [I x] (B false) := by
  intro H
  refine w_enter Try.func105 rfl Try.ntmps105 (ts := [2]) rfl (by simp) (by kernel_rfl) ?_
  repeat' (first
    | (with_reducible refine awp_skip ?_)
    | (with_reducible refine then_any ?_)
    | (with_reducible refine then_ret ?_)
    | (with_reducible refine then_exit ?_)
    | (with_reducible refine inBlock_normal ?_)
    | (with_reducible refine inBlock_ret ?_)
    | (with_reducible refine inBlock_hit ?_)
    | (with_reducible refine inBlock_miss (by decide) ?_)
    | (with_reducible refine awp_ret ?_)
    | (with_reducible refine awp_exit ?_)
    | (with_reducible refine post_ret ?_)
    | (with_reducible refine post_normal ?_)
    | (with_reducible refine awp_block ?_)
    | (with_reducible refine v_reg [] (fun K hK => ?_))
    | (with_reducible refine v_reg1 [] (fun K hK => ?_))
    | (with_reducible refine v_draw mixed [] [] (by kernel_rfl) (fun K hK => ?_))
    | (with_reducible refine v_draw1 mixed [] [] (by kernel_rfl) (fun K hK => ?_))
    | (with_reducible refine ev_nil (hK _ _ ?_); clear hK K)
    | (with_reducible refine ed_nil (hK _ _ ?_); clear hK K)
    | ((first | with_reducible refine ev_cons (fun K' hK' => ?_) | with_reducible refine ed_cons (fun K' hK' => ?_) | (with_reducible refine ev_id ?_; refine ev_guard rfl (fun K' hK' => ?_)) | (with_reducible refine ed_id ?_; refine ed_guard rfl (fun K' hK' => ?_))); simp; repeat' (first | (with_reducible refine hK' _ _ ?_; clear hK' K') | (with_reducible refine And.intro ?_ ?_) | (with_reducible intro hg) | (clear hK' K'; omega)))
    | (with_reducible refine w_cond (fun A B hA hB => ?_); simp; repeat' (first | (with_reducible refine hA ?_; clear hA hB A B) | (with_reducible refine hB ?_; clear hA hB A B) | (with_reducible refine And.intro ?_ ?_) | (with_reducible intro hc)))
    | (with_reducible refine awp_seq ?_))
  simp
theorem cnan_ret {x : Int} : Ret Try.prog w0 114 [I x] (B false) := by
  intro H
  refine w_enter Try.func114 rfl Try.ntmps114 (ts := [2]) rfl (by simp) (by kernel_rfl) ?_
  repeat' (first
    | (with_reducible refine awp_skip ?_)
    | (with_reducible refine then_any ?_)
    | (with_reducible refine then_ret ?_)
    | (with_reducible refine then_exit ?_)
    | (with_reducible refine inBlock_normal ?_)
    | (with_reducible refine inBlock_ret ?_)
    | (with_reducible refine inBlock_hit ?_)
    | (with_reducible refine inBlock_miss (by decide) ?_)
    | (with_reducible refine awp_ret ?_)
    | (with_reducible refine awp_exit ?_)
    | (with_reducible refine post_ret ?_)
    | (with_reducible refine post_normal ?_)
    | (with_reducible refine awp_block ?_)
    | (with_reducible refine v_reg [] (fun K hK => ?_))
    | (with_reducible refine v_reg1 [] (fun K hK => ?_))
    | (with_reducible refine v_draw mixed [] [] (by kernel_rfl) (fun K hK => ?_))
    | (with_reducible refine v_draw1 mixed [] [] (by kernel_rfl) (fun K hK => ?_))
    | (with_reducible refine ev_nil (hK _ _ ?_); clear hK K)
    | (with_reducible refine ed_nil (hK _ _ ?_); clear hK K)
    | ((first | with_reducible refine ev_cons (fun K' hK' => ?_) | with_reducible refine ed_cons (fun K' hK' => ?_) | (with_reducible refine ev_id ?_; refine ev_guard rfl (fun K' hK' => ?_)) | (with_reducible refine ed_id ?_; refine ed_guard rfl (fun K' hK' => ?_))); simp; repeat' (first | (with_reducible refine hK' _ _ ?_; clear hK' K') | (with_reducible refine And.intro ?_ ?_) | (with_reducible intro hg) | (clear hK' K'; omega)))
    | (with_reducible refine w_cond (fun A B hA hB => ?_); simp; repeat' (first | (with_reducible refine hA ?_; clear hA hB A B) | (with_reducible refine hB ?_; clear hA hB A B) | (with_reducible refine And.intro ?_ ?_) | (with_reducible intro hc)))
    | (with_reducible refine awp_seq ?_))
  simp
theorem less_ret {x y : Int} : Ret Try.prog w0 97 [I x, I y] (B (decide (x < y))) := by
  intro H
  refine w_enter Try.func97 rfl Try.ntmps97 (ts := [4]) rfl (by simp) (by kernel_rfl) ?_
  repeat' (first
    | (with_reducible refine awp_skip ?_)
    | (with_reducible refine then_any ?_)
    | (with_reducible refine then_ret ?_)
    | (with_reducible refine then_exit ?_)
    | (with_reducible refine inBlock_normal ?_)
    | (with_reducible refine inBlock_ret ?_)
    | (with_reducible refine inBlock_hit ?_)
    | (with_reducible refine inBlock_miss (by decide) ?_)
    | (with_reducible refine awp_ret ?_)
    | (with_reducible refine awp_exit ?_)
    | (with_reducible refine post_ret ?_)
    | (with_reducible refine post_normal ?_)
    | (with_reducible refine awp_block ?_)
    | (with_reducible refine v_reg [] (fun K hK => ?_))
    | (with_reducible refine v_reg1 [] (fun K hK => ?_))
    | (with_reducible refine v_draw mixed [] [] (by kernel_rfl) (fun K hK => ?_))
    | (with_reducible refine v_draw1 mixed [] [] (by kernel_rfl) (fun K hK => ?_))
    | (with_reducible refine ev_nil (hK _ _ ?_); clear hK K)
    | (with_reducible refine ed_nil (hK _ _ ?_); clear hK K)
    | ((first | with_reducible refine ev_cons (fun K' hK' => ?_) | with_reducible refine ed_cons (fun K' hK' => ?_) | (with_reducible refine ev_id ?_; refine ev_guard rfl (fun K' hK' => ?_)) | (with_reducible refine ed_id ?_; refine ed_guard rfl (fun K' hK' => ?_))); simp; repeat' (first | (with_reducible refine hK' _ _ ?_; clear hK' K') | (with_reducible refine Ret.use cnan_ret ?_; try simp) | (with_reducible refine And.intro ?_ ?_) | (with_reducible intro hg) | (clear hK' K'; omega)))
    | (with_reducible refine w_cond (fun A B hA hB => ?_); simp; repeat' (first | (with_reducible refine hA ?_; clear hA hB A B) | (with_reducible refine hB ?_; clear hA hB A B) | (with_reducible refine And.intro ?_ ?_) | (with_reducible intro hc)))
    | (with_reducible refine awp_seq ?_))
  simp

/-- A number laid into a list, before the first greater one. -/
def insL (x : Int) : List Int → List Int
  | [] => [x]
  | y :: l => if x < y then x :: y :: l else y :: insL x l

/-- The reference's sorted list. -/
def sortR (l : List Int) : List Int := l.foldl (fun out x => if x < 0 ∨ 1099511627776 < x ∨ x ∈ out then out else insL x out) []

theorem insL_length (x : Int) (l : List Int) : (insL x l).length = l.length + 1 := by
  induction l with
  | nil => rfl
  | cons y l ih => simp only [insL]; split <;> simp [ih]
theorem insL_split (x : Int) (l : List Int) : insL x l = l.takeWhile (· ≤ x) ++ x :: l.dropWhile (· ≤ x) := by
  induction l with
  | nil => rfl
  | cons y l ih =>
    simp only [insL, List.takeWhile_cons, List.dropWhile_cons]
    by_cases h : x < y
    · simp [h, show ¬ y ≤ x by omega]
    · simp [h, show y ≤ x by omega, ih]

theorem insL_ge (x : Int) (l : List Int) : (sortR l).length ≤ l.length := by
  unfold sortR
  have : ∀ (l : List Int) (out : List Int), (l.foldl (fun out x => if x < 0 ∨ 1099511627776 < x ∨ x ∈ out then out else insL x out) out).length ≤ out.length + l.length := by
    intro l
    induction l with
    | nil => intro out; simp
    | cons x l ih =>
      intro out
      simp only [List.foldl_cons, List.length_cons]
      refine Nat.le_trans (ih _) ?_
      split
      · omega
      · rw [insL_length]; omega
  simpa using this l []

theorem sortR_take {l : List Int} {n : Nat} (h : n < l.length) : sortR (l.take (n + 1)) = if l[n] < 0 ∨ 1099511627776 < l[n] ∨ l[n] ∈ sortR (l.take n) then sortR (l.take n) else insL l[n] (sortR (l.take n)) := by
  unfold sortR
  rw [List.take_succ_eq_append_getElem h, List.foldl_append]
  rfl

theorem sort2_ret {l : List Int} (hl : smLen l) : Ret Try.prog w0 47 [ints l] (ints (sortR l)) := by
  intro H
  refine w_enter Try.func47 rfl Try.ntmps47 (ts := [2]) rfl (by simp) (by kernel_rfl) ?_
  repeat' (first
    | (with_reducible refine awp_skip ?_)
    | (with_reducible refine then_any ?_)
    | (with_reducible refine then_ret ?_)
    | (with_reducible refine then_exit ?_)
    | (with_reducible refine inBlock_normal ?_)
    | (with_reducible refine inBlock_ret ?_)
    | (with_reducible refine inBlock_hit ?_)
    | (with_reducible refine inBlock_miss (by decide) ?_)
    | (with_reducible refine awp_ret ?_)
    | (with_reducible refine awp_exit ?_)
    | (with_reducible refine post_ret ?_)
    | (with_reducible refine post_normal ?_)
    | (with_reducible refine awp_block ?_)
    | (with_reducible refine v_reg [8] (fun K hK => ?_))
    | (with_reducible refine v_reg1 [8] (fun K hK => ?_))
    | (with_reducible refine v_draw mixed [8] [] (by kernel_rfl) (fun K hK => ?_))
    | (with_reducible refine v_draw1 mixed [8] [] (by kernel_rfl) (fun K hK => ?_))
    | (with_reducible refine ev_nil (hK _ _ ?_); clear hK K)
    | (with_reducible refine ed_nil (hK _ _ ?_); clear hK K)
    | ((first | with_reducible refine ev_cons (fun K' hK' => ?_) | with_reducible refine ed_cons (fun K' hK' => ?_) | (with_reducible refine ev_id ?_; refine ev_guard rfl (fun K' hK' => ?_)) | (with_reducible refine ed_id ?_; refine ed_guard rfl (fun K' hK' => ?_))); simp [ints]; repeat' (first | (with_reducible refine hK' _ _ ?_; clear hK' K') | (with_reducible refine And.intro ?_ ?_) | (with_reducible intro hg) | (clear hK' K'; omega)))
    | (with_reducible refine w_cond (fun A B hA hB => ?_); simp [ints]; repeat' (first | (with_reducible refine hA ?_; clear hA hB A B) | (with_reducible refine hB ?_; clear hA hB A B) | (with_reducible refine And.intro ?_ ?_) | (with_reducible intro hc)))
    | (with_reducible refine awp_seq ?_))
  rename_i r
  have hr : H r = none := hg
  clear hg
  refine awp_loop_prep (fun env h => ∃ (k : Nat), k ≤ l.length ∧ env 4 = I k ∧ env 0 = ints l ∧ env 3 = ints (sortR (l.take k)) ∧ h = H) 
    (fun env h => ∃ (k : Nat), k ≤ l.length ∧ env 4 = I k ∧ env 0 = ints l ∧ listIn H 3 (sortR (l.take k)) env h) (fun env _ => l.length - natA (env 4)) ?_ ?_ ?_
  · exact ⟨0, by omega, by simp, by simp, .inr ⟨r, hr, by simp [sortR], by simp [sortR]⟩⟩
  · rintro env h ⟨k, hk, h4, h0, h3⟩ Q' q
    exact h3.prep fun env' e e' => q env' H ⟨k, hk, by rw [e' _ (by decide), h4], by rw [e' _ (by decide), h0], e, rfl⟩ (by rw [e' _ (by decide)])
  rintro env h ⟨n, hn, h4, h0, h3, rfl⟩
  have hnat : natA (env 4) = n := by simp [h4]
  rw [hnat]; clear hnat
  have hlen := insL_ge 0 (l.take n)
  rw [List.length_take] at hlen
  have hst := fun h => sortR_take (l := l) (n := n) h
  generalize hout : sortR (l.take n) = out at h3 hlen hst
  by_cases hlt : n < l.length
  · have hst := hst hlt
    have hol : okLen out := by omega
    repeat' (first
      | (with_reducible refine awp_skip ?_)
      | (with_reducible refine then_any ?_)
      | (with_reducible refine then_ret ?_)
      | (with_reducible refine then_exit ?_)
      | (with_reducible refine inBlock_normal ?_)
      | (with_reducible refine inBlock_ret ?_)
      | (with_reducible refine inBlock_hit ?_)
      | (with_reducible refine inBlock_miss (by decide) ?_)
      | (with_reducible refine awp_ret ?_)
      | (with_reducible refine awp_exit ?_)
      | (with_reducible refine post_ret ?_)
      | (with_reducible refine post_normal ?_)
      | (with_reducible refine awp_block ?_)
      | (with_reducible refine v_reg [35] (fun K hK => ?_))
      | (with_reducible refine v_reg1 [35] (fun K hK => ?_))
      | (with_reducible refine v_draw mixed [35] [] (by kernel_rfl) (fun K hK => ?_))
      | (with_reducible refine v_draw1 mixed [35] [] (by kernel_rfl) (fun K hK => ?_))
      | (with_reducible refine ev_nil (hK _ _ ?_); clear hK K)
      | (with_reducible refine ed_nil (hK _ _ ?_); clear hK K)
      | ((first | with_reducible refine ev_cons (fun K' hK' => ?_) | with_reducible refine ed_cons (fun K' hK' => ?_) | (with_reducible refine ev_id ?_; refine ev_guard rfl (fun K' hK' => ?_)) | (with_reducible refine ed_id ?_; refine ed_guard rfl (fun K' hK' => ?_))); simp [h4, h0, h3, hlt, ints]; repeat' (first | (with_reducible refine hK' _ _ ?_; clear hK' K') | (with_reducible refine Ret.use (in_ret hol) ?_; try simp [h4, h0, h3, hlt, ints]) | (with_reducible refine And.intro ?_ ?_) | (with_reducible intro hg) | (clear hK' K'; omega)))
      | (with_reducible refine w_cond (fun A B hA hB => ?_); simp [h4, h0, h3, hlt, ints]; repeat' (first | (with_reducible refine hA ?_; clear hA hB A B) | (with_reducible refine hB ?_; clear hA hB A B) | (with_reducible refine And.intro ?_ ?_) | (with_reducible intro hc)))
      | (with_reducible refine awp_seq ?_))
    rotate_left
    · rename_i r2
      have hr2 : h r2 = none := hg
      clear hg
      have hno : ¬ (l[n] < 0 ∨ 1099511627776 < l[n] ∨ l[n] ∈ out) := by
        rintro (h | h | h)
        · omega
        · omega
        · exact absurd h (by assumption)
      rw [if_neg hno] at hst
      have hx : ∀ x, x = l[n] → insL x out = insL l[n] out := by rintro _ rfl; rfl
      refine awp_loop (fun env h' => ∃ (k : Nat) (next : List Int) (ld : Bool), k ≤ out.length ∧ env 7 = I k ∧ env 6 = B ld ∧ env 4 = I n ∧ env 0 = ints l ∧ env 3 = ints out ∧ env 5 = .ref r2 0 next.length next.length ∧
        next ++ (if ld then out.drop k else insL l[n] (out.drop k)) = insL l[n] out ∧ h' = upd h r2 (some (.arr 1 3 (next.map I) next.length))) (fun env _ => out.length - natA (env 7)) ?_ ?_
      · exact ⟨0, [], false, by omega, by simp, by simp, by simp [h4], by simp [h0], by simp [h3], by simp, by simp, by simp⟩
      clear h4 h0 h3
      rintro env1 h1 ⟨k, next, ld, hk, h7, h6, h4, h0, h3, h5, hnx, rfl⟩
      have hnat : natA (env1 7) = k := by simp [h7]
      rw [hnat]; clear hnat
      have hnl : next.length ≤ out.length + 1 := by
        have := congrArg List.length hnx
        rw [insL_length] at this
        simp only [List.length_append] at this
        omega
      by_cases hk' : k < out.length
      · rw [List.drop_eq_getElem_cons hk'] at hnx
        cases ld with
        | false =>
          rw [if_neg (by simp), insL] at hnx
          have hnl2 : next.length + 1 ≤ out.length + 1 := by
            have := congrArg List.length hnx
            rw [insL_length] at this
            split at this <;> simp [insL_length] at this <;> omega
          repeat' (first
            | (with_reducible refine awp_skip ?_)
            | (with_reducible refine then_any ?_)
            | (with_reducible refine then_ret ?_)
            | (with_reducible refine then_exit ?_)
            | (with_reducible refine inBlock_normal ?_)
            | (with_reducible refine inBlock_ret ?_)
            | (with_reducible refine inBlock_hit ?_)
            | (with_reducible refine inBlock_miss (by decide) ?_)
            | (with_reducible refine awp_ret ?_)
            | (with_reducible refine awp_exit ?_)
            | (with_reducible refine post_ret ?_)
            | (with_reducible refine post_normal ?_)
            | (with_reducible refine awp_block ?_)
            | (with_reducible refine v_reg [] (fun K hK => ?_))
            | (with_reducible refine v_reg1 [] (fun K hK => ?_))
            | (with_reducible refine v_draw mixed [] [] (by kernel_rfl) (fun K hK => ?_))
            | (with_reducible refine v_draw1 mixed [] [] (by kernel_rfl) (fun K hK => ?_))
            | (with_reducible refine ev_nil (hK _ _ ?_); clear hK K)
            | (with_reducible refine ed_nil (hK _ _ ?_); clear hK K)
            | ((first | with_reducible refine ev_cons (fun K' hK' => ?_) | with_reducible refine ed_cons (fun K' hK' => ?_) | (with_reducible refine ev_id ?_; refine ev_guard rfl (fun K' hK' => ?_)) | (with_reducible refine ed_id ?_; refine ed_guard rfl (fun K' hK' => ?_))); simp [h7, h6, h4, h0, h3, h5, hk', hlt, ints]; repeat' (first | (with_reducible refine hK' _ _ ?_; clear hK' K') | (with_reducible refine And.intro ?_ ?_) | (with_reducible intro hg) | (clear hK' K'; omega)))
            | (with_reducible refine w_cond (fun A B hA hB => ?_); simp [h7, h6, h4, h0, h3, h5, hk', hlt, ints]; repeat' (first | (with_reducible refine hA ?_; clear hA hB A B) | (with_reducible refine hB ?_; clear hA hB A B) | (with_reducible refine And.intro ?_ ?_) | (with_reducible intro hc)))
            | (with_reducible refine awp_seq ?_))
          · rw [if_pos hc] at hnx
            exact ⟨⟨k + 1, next ++ [l[n], out[k]], true, by omega, by simp, by simp, by simp [h4], by simp [h0], by simp [h3], by simp, by simpa using hnx, by simp⟩, by simp; omega⟩
          · rw [if_neg (by omega)] at hnx
            exact ⟨⟨k + 1, next ++ [out[k]], false, by omega, by simp, by simp [h6], by simp [h4], by simp [h0], by simp [h3], by simp, by simpa using hnx, by simp⟩, by simp; omega⟩
        | true =>
          rw [if_pos rfl] at hnx
          repeat' (first
            | (with_reducible refine awp_skip ?_)
            | (with_reducible refine then_any ?_)
            | (with_reducible refine then_ret ?_)
            | (with_reducible refine then_exit ?_)
            | (with_reducible refine inBlock_normal ?_)
            | (with_reducible refine inBlock_ret ?_)
            | (with_reducible refine inBlock_hit ?_)
            | (with_reducible refine inBlock_miss (by decide) ?_)
            | (with_reducible refine awp_ret ?_)
            | (with_reducible refine awp_exit ?_)
            | (with_reducible refine post_ret ?_)
            | (with_reducible refine post_normal ?_)
            | (with_reducible refine awp_block ?_)
            | (with_reducible refine v_reg [] (fun K hK => ?_))
            | (with_reducible refine v_reg1 [] (fun K hK => ?_))
            | (with_reducible refine v_draw mixed [] [] (by kernel_rfl) (fun K hK => ?_))
            | (with_reducible refine v_draw1 mixed [] [] (by kernel_rfl) (fun K hK => ?_))
            | (with_reducible refine ev_nil (hK _ _ ?_); clear hK K)
            | (with_reducible refine ed_nil (hK _ _ ?_); clear hK K)
            | ((first | with_reducible refine ev_cons (fun K' hK' => ?_) | with_reducible refine ed_cons (fun K' hK' => ?_) | (with_reducible refine ev_id ?_; refine ev_guard rfl (fun K' hK' => ?_)) | (with_reducible refine ed_id ?_; refine ed_guard rfl (fun K' hK' => ?_))); simp [h7, h6, h4, h0, h3, h5, hk', hlt, ints]; repeat' (first | (with_reducible refine hK' _ _ ?_; clear hK' K') | (with_reducible refine And.intro ?_ ?_) | (with_reducible intro hg) | (clear hK' K'; omega)))
            | (with_reducible refine w_cond (fun A B hA hB => ?_); simp [h7, h6, h4, h0, h3, h5, hk', hlt, ints]; repeat' (first | (with_reducible refine hA ?_; clear hA hB A B) | (with_reducible refine hB ?_; clear hA hB A B) | (with_reducible refine And.intro ?_ ?_) | (with_reducible intro hc)))
            | (with_reducible refine awp_seq ?_))
          exact ⟨⟨k + 1, next ++ [out[k]], true, by omega, by simp, by simp [h6], by simp [h4], by simp [h0], by simp [h3], by simp, by simpa using hnx, by simp⟩, by simp; omega⟩
      · have : k = out.length := by omega
        subst this
        rw [List.drop_length] at hnx
        cases ld with
        | false =>
          rw [if_neg (by simp), insL] at hnx
          repeat' (first
            | (with_reducible refine awp_skip ?_)
            | (with_reducible refine then_any ?_)
            | (with_reducible refine then_ret ?_)
            | (with_reducible refine then_exit ?_)
            | (with_reducible refine inBlock_normal ?_)
            | (with_reducible refine inBlock_ret ?_)
            | (with_reducible refine inBlock_hit ?_)
            | (with_reducible refine inBlock_miss (by decide) ?_)
            | (with_reducible refine awp_ret ?_)
            | (with_reducible refine awp_exit ?_)
            | (with_reducible refine post_ret ?_)
            | (with_reducible refine post_normal ?_)
            | (with_reducible refine awp_block ?_)
            | (with_reducible refine v_reg [] (fun K hK => ?_))
            | (with_reducible refine v_reg1 [] (fun K hK => ?_))
            | (with_reducible refine v_draw mixed [] [] (by kernel_rfl) (fun K hK => ?_))
            | (with_reducible refine v_draw1 mixed [] [] (by kernel_rfl) (fun K hK => ?_))
            | (with_reducible refine ev_nil (hK _ _ ?_); clear hK K)
            | (with_reducible refine ed_nil (hK _ _ ?_); clear hK K)
            | ((first | with_reducible refine ev_cons (fun K' hK' => ?_) | with_reducible refine ed_cons (fun K' hK' => ?_) | (with_reducible refine ev_id ?_; refine ev_guard rfl (fun K' hK' => ?_)) | (with_reducible refine ed_id ?_; refine ed_guard rfl (fun K' hK' => ?_))); simp [h7, h6, h4, h0, h3, h5, hlt, ints]; repeat' (first | (with_reducible refine hK' _ _ ?_; clear hK' K') | (with_reducible refine And.intro ?_ ?_) | (with_reducible intro hg) | (clear hK' K'; omega)))
            | (with_reducible refine w_cond (fun A B hA hB => ?_); simp [h7, h6, h4, h0, h3, h5, hlt, ints]; repeat' (first | (with_reducible refine hA ?_; clear hA hB A B) | (with_reducible refine hB ?_; clear hA hB A B) | (with_reducible refine And.intro ?_ ?_) | (with_reducible intro hc)))
            | (with_reducible refine awp_seq ?_))
          exact ⟨⟨n + 1, by omega, by simp [h4], by simp [h0], .inr ⟨r2, hr2, by rw [hst, ← hnx]; simp, by rw [hst, ← hnx]; simp⟩⟩, by simp [h4]; omega⟩
        | true =>
          rw [if_pos rfl, List.append_nil] at hnx
          repeat' (first
            | (with_reducible refine awp_skip ?_)
            | (with_reducible refine then_any ?_)
            | (with_reducible refine then_ret ?_)
            | (with_reducible refine then_exit ?_)
            | (with_reducible refine inBlock_normal ?_)
            | (with_reducible refine inBlock_ret ?_)
            | (with_reducible refine inBlock_hit ?_)
            | (with_reducible refine inBlock_miss (by decide) ?_)
            | (with_reducible refine awp_ret ?_)
            | (with_reducible refine awp_exit ?_)
            | (with_reducible refine post_ret ?_)
            | (with_reducible refine post_normal ?_)
            | (with_reducible refine awp_block ?_)
            | (with_reducible refine v_reg [] (fun K hK => ?_))
            | (with_reducible refine v_reg1 [] (fun K hK => ?_))
            | (with_reducible refine v_draw mixed [] [] (by kernel_rfl) (fun K hK => ?_))
            | (with_reducible refine v_draw1 mixed [] [] (by kernel_rfl) (fun K hK => ?_))
            | (with_reducible refine ev_nil (hK _ _ ?_); clear hK K)
            | (with_reducible refine ed_nil (hK _ _ ?_); clear hK K)
            | ((first | with_reducible refine ev_cons (fun K' hK' => ?_) | with_reducible refine ed_cons (fun K' hK' => ?_) | (with_reducible refine ev_id ?_; refine ev_guard rfl (fun K' hK' => ?_)) | (with_reducible refine ed_id ?_; refine ed_guard rfl (fun K' hK' => ?_))); simp [h7, h6, h4, h0, h3, h5, hlt, ints]; repeat' (first | (with_reducible refine hK' _ _ ?_; clear hK' K') | (with_reducible refine And.intro ?_ ?_) | (with_reducible intro hg) | (clear hK' K'; omega)))
            | (with_reducible refine w_cond (fun A B hA hB => ?_); simp [h7, h6, h4, h0, h3, h5, hlt, ints]; repeat' (first | (with_reducible refine hA ?_; clear hA hB A B) | (with_reducible refine hB ?_; clear hA hB A B) | (with_reducible refine And.intro ?_ ?_) | (with_reducible intro hc)))
            | (with_reducible refine awp_seq ?_))
          exact ⟨⟨n + 1, by omega, by simp [h4], by simp [h0], .inr ⟨r2, hr2, by rw [hst, ← hnx]; simp [h5], by rw [hst, ← hnx]⟩⟩, by simp [h4]; omega⟩
    all_goals exact ⟨⟨n + 1, by omega, by simp, by simp [h0], .inl ⟨by rw [hst, if_pos (by first | exact .inl (by omega) | exact .inr (.inl (by omega)) | exact .inr (.inr (by assumption)))]; simp [h3], rfl⟩⟩, by simp; omega⟩
  · have : n = l.length := by omega
    subst this
    rw [List.take_length] at hout
    repeat' (first
      | (with_reducible refine awp_skip ?_)
      | (with_reducible refine then_any ?_)
      | (with_reducible refine then_ret ?_)
      | (with_reducible refine then_exit ?_)
      | (with_reducible refine inBlock_normal ?_)
      | (with_reducible refine inBlock_ret ?_)
      | (with_reducible refine inBlock_hit ?_)
      | (with_reducible refine inBlock_miss (by decide) ?_)
      | (with_reducible refine awp_ret ?_)
      | (with_reducible refine awp_exit ?_)
      | (with_reducible refine post_ret ?_)
      | (with_reducible refine post_normal ?_)
      | (with_reducible refine awp_block ?_)
      | (with_reducible refine v_reg [] (fun K hK => ?_))
      | (with_reducible refine v_reg1 [] (fun K hK => ?_))
      | (with_reducible refine v_draw mixed [] [] (by kernel_rfl) (fun K hK => ?_))
      | (with_reducible refine v_draw1 mixed [] [] (by kernel_rfl) (fun K hK => ?_))
      | (with_reducible refine ev_nil (hK _ _ ?_); clear hK K)
      | (with_reducible refine ed_nil (hK _ _ ?_); clear hK K)
      | ((first | with_reducible refine ev_cons (fun K' hK' => ?_) | with_reducible refine ed_cons (fun K' hK' => ?_) | (with_reducible refine ev_id ?_; refine ev_guard rfl (fun K' hK' => ?_)) | (with_reducible refine ed_id ?_; refine ed_guard rfl (fun K' hK' => ?_))); simp [h4, h0, h3, ints]; repeat' (first | (with_reducible refine hK' _ _ ?_; clear hK' K') | (with_reducible refine And.intro ?_ ?_) | (with_reducible intro hg) | (clear hK' K'; omega)))
      | (with_reducible refine w_cond (fun A B hA hB => ?_); simp [h4, h0, h3, ints]; repeat' (first | (with_reducible refine hA ?_; clear hA hB A B) | (with_reducible refine hB ?_; clear hA hB A B) | (with_reducible refine And.intro ?_ ?_) | (with_reducible intro hc)))
      | (with_reducible refine awp_seq ?_))
    simp [hout]

/-- The reference's union. -/
def unionR (a b : List Int) : List Int := if risesB (-1) a && risesB (-1) b then sortR (a ++ b) else []

theorem union2_ret {a b : List Int} (hab : smLen (a ++ b)) : Ret Try.prog w0 27 [ints a, ints b] (ints (unionR a b)) := by
  intro H
  have hl : a.length + b.length ≤ 1099511627776 := by simpa using hab
  have ha' : okLen a := by omega
  have hb' : okLen b := by omega
  refine w_enter Try.func27 rfl Try.ntmps27 (ts := [4]) rfl (by simp) (by kernel_rfl) ?_
  repeat' (first
    | (with_reducible refine awp_skip ?_)
    | (with_reducible refine then_any ?_)
    | (with_reducible refine then_ret ?_)
    | (with_reducible refine then_exit ?_)
    | (with_reducible refine inBlock_normal ?_)
    | (with_reducible refine inBlock_ret ?_)
    | (with_reducible refine inBlock_hit ?_)
    | (with_reducible refine inBlock_miss (by decide) ?_)
    | (with_reducible refine awp_ret ?_)
    | (with_reducible refine awp_exit ?_)
    | (with_reducible refine post_ret ?_)
    | (with_reducible refine post_normal ?_)
    | (with_reducible refine awp_block ?_)
    | (with_reducible refine v_reg [13] (fun K hK => ?_))
    | (with_reducible refine v_reg1 [13] (fun K hK => ?_))
    | (with_reducible refine v_draw mixed [13] [] (by kernel_rfl) (fun K hK => ?_))
    | (with_reducible refine v_draw1 mixed [13] [] (by kernel_rfl) (fun K hK => ?_))
    | (with_reducible refine ev_nil (hK _ _ ?_); clear hK K)
    | (with_reducible refine ed_nil (hK _ _ ?_); clear hK K)
    | ((first | with_reducible refine ev_cons (fun K' hK' => ?_) | with_reducible refine ed_cons (fun K' hK' => ?_) | (with_reducible refine ev_id ?_; refine ev_guard rfl (fun K' hK' => ?_)) | (with_reducible refine ed_id ?_; refine ed_guard rfl (fun K' hK' => ?_))); simp [ints]; repeat' (first | (with_reducible refine hK' _ _ ?_; clear hK' K') | (with_reducible refine Ret.use (may2_ret ha') ?_; try simp [ints]) | (with_reducible refine Ret.use (may2_ret hb') ?_; try simp [ints]) | ((with_reducible refine acalls_frz1 ?_); try simp [ints]) | ((with_reducible refine Ret.use_eq (sort2_ret hab) (by simp [ints]) ?_); try simp [ints]) | (with_reducible refine And.intro ?_ ?_) | (with_reducible intro hg) | (clear hK' K'; omega)))
    | (with_reducible refine w_cond (fun A B hA hB => ?_); simp [ints]; repeat' (first | (with_reducible refine hA ?_; clear hA hB A B) | (with_reducible refine hB ?_; clear hA hB A B) | (with_reducible refine And.intro ?_ ?_) | (with_reducible intro hc)))
    | (with_reducible refine awp_seq ?_))
  · simp [unionR, hc]
  · rename_i hr
    simp [unionR, *, upd_none_self]
  · simp [unionR, hg]

#print axioms union2_ret
end Go.Am
