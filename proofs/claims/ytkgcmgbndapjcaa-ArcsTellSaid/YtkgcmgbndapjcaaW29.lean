/- Contracts: the program's Sort. -/
import Derived.Test.YtkgcmgbndapjcaaW28
import Derived.Test.YtkgcmgbndapjcaaB3
namespace Go.Am
open Go Go.Proofs
set_option linter.unusedVariables false
set_option linter.unusedSimpArgs false
variable {w0 : World}
attribute [local irreducible] AWP ACalls
attribute [local congr] acalls_congr

/-- A number that a set may have. -/
abbrev inB (x : Int) : Bool := decide (0 ≤ x ∧ x ≤ 1099511627776)

theorem index_zero {f : FuncId} : Ret Try.prog w0 84 [.sl [] 0, .clo f [] []] (I (-1)) := by
  intro H
  refine w_enter Try.func84 rfl Try.ntmps84 (ts := [4]) rfl (by simp) (by kernel_rfl) ?_
  repeat' (first
    | (with_reducible refine awp_skip ?_)
    | (with_reducible refine then_any ?_)
    | (with_reducible refine then_ret ?_)
    | (with_reducible refine then_exit ?_)
    | (with_reducible refine inBlock_normal ?_)
    | (with_reducible refine inBlock_ret ?_)
    | (with_reducible refine inBlock_hit ?_)
    | (with_reducible refine inBlock_miss (by decide) ?_)
    | (with_reducible refine awp_ret ?_)
    | (with_reducible refine awp_exit ?_)
    | (with_reducible refine post_ret ?_)
    | (with_reducible refine post_normal ?_)
    | (with_reducible refine awp_block ?_)
    | (with_reducible refine v_reg [] (fun K hK => ?_))
    | (with_reducible refine v_reg1 [] (fun K hK => ?_))
    | (with_reducible refine v_draw mixed [] [] (by kernel_rfl) (fun K hK => ?_))
    | (with_reducible refine v_draw1 mixed [] [] (by kernel_rfl) (fun K hK => ?_))
    | (with_reducible refine ev_nil (hK _ _ ?_); clear hK K)
    | (with_reducible refine ed_nil (hK _ _ ?_); clear hK K)
    | ((first | with_reducible refine ev_cons (fun K' hK' => ?_) | with_reducible refine ed_cons (fun K' hK' => ?_) | (with_reducible refine ev_id ?_; refine ev_guard rfl (fun K' hK' => ?_)) | (with_reducible refine ed_id ?_; refine ed_guard rfl (fun K' hK' => ?_))); simp; repeat' (first | (with_reducible refine hK' _ _ ?_; clear hK' K') | (with_reducible refine And.intro ?_ ?_) | (with_reducible intro hg) | (clear hK' K'; omega)))
    | (with_reducible refine w_cond (fun A B hA hB => ?_); simp; repeat' (first | (with_reducible refine hA ?_; clear hA hB A B) | (with_reducible refine hB ?_; clear hA hB A B) | (with_reducible refine And.intro ?_ ?_) | (with_reducible intro hc)))
    | (with_reducible refine awp_seq ?_))
  refine awp_loop (fun env h => env 7 = I 0 ∧ env 8 = I 0 ∧ h = H) (fun _ _ => 0) ?_ ?_
  · exact ⟨by simp, by simp, rfl⟩
  rintro env h ⟨h7, h8, rfl⟩
  repeat' (first
    | (with_reducible refine awp_skip ?_)
    | (with_reducible refine then_any ?_)
    | (with_reducible refine then_ret ?_)
    | (with_reducible refine then_exit ?_)
    | (with_reducible refine inBlock_normal ?_)
    | (with_reducible refine inBlock_ret ?_)
    | (with_reducible refine inBlock_hit ?_)
    | (with_reducible refine inBlock_miss (by decide) ?_)
    | (with_reducible refine awp_ret ?_)
    | (with_reducible refine awp_exit ?_)
    | (with_reducible refine post_ret ?_)
    | (with_reducible refine post_normal ?_)
    | (with_reducible refine awp_block ?_)
    | (with_reducible refine v_reg [] (fun K hK => ?_))
    | (with_reducible refine v_reg1 [] (fun K hK => ?_))
    | (with_reducible refine v_draw mixed [] [] (by kernel_rfl) (fun K hK => ?_))
    | (with_reducible refine v_draw1 mixed [] [] (by kernel_rfl) (fun K hK => ?_))
    | (with_reducible refine ev_nil (hK _ _ ?_); clear hK K)
    | (with_reducible refine ed_nil (hK _ _ ?_); clear hK K)
    | ((first | with_reducible refine ev_cons (fun K' hK' => ?_) | with_reducible refine ed_cons (fun K' hK' => ?_) | (with_reducible refine ev_id ?_; refine ev_guard rfl (fun K' hK' => ?_)) | (with_reducible refine ed_id ?_; refine ed_guard rfl (fun K' hK' => ?_))); simp [h7, h8]; repeat' (first | (with_reducible refine hK' _ _ ?_; clear hK' K') | (with_reducible refine And.intro ?_ ?_) | (with_reducible intro hg) | (clear hK' K'; omega)))
    | (with_reducible refine w_cond (fun A B hA hB => ?_); simp [h7, h8]; repeat' (first | (with_reducible refine hA ?_; clear hA hB A B) | (with_reducible refine hB ?_; clear hA hB A B) | (with_reducible refine And.intro ?_ ?_) | (with_reducible intro hc)))
    | (with_reducible refine awp_seq ?_))
  all_goals simp
theorem delete_zero {f : FuncId} : Ret Try.prog w0 82 [.sl [] 0, .clo f [] []] (.sl [] 0) := by
  intro H
  refine w_enter Try.func82 rfl Try.ntmps82 (ts := [4]) rfl (by simp) (by kernel_rfl) ?_
  repeat' (first
    | (with_reducible refine awp_skip ?_)
    | (with_reducible refine then_any ?_)
    | (with_reducible refine then_ret ?_)
    | (with_reducible refine then_exit ?_)
    | (with_reducible refine inBlock_normal ?_)
    | (with_reducible refine inBlock_ret ?_)
    | (with_reducible refine inBlock_hit ?_)
    | (with_reducible refine inBlock_miss (by decide) ?_)
    | (with_reducible refine awp_ret ?_)
    | (with_reducible refine awp_exit ?_)
    | (with_reducible refine post_ret ?_)
    | (with_reducible refine post_normal ?_)
    | (with_reducible refine awp_block ?_)
    | (with_reducible refine v_reg [] (fun K hK => ?_))
    | (with_reducible refine v_reg1 [] (fun K hK => ?_))
    | (with_reducible refine v_draw mixed [] [] (by kernel_rfl) (fun K hK => ?_))
    | (with_reducible refine v_draw1 mixed [] [] (by kernel_rfl) (fun K hK => ?_))
    | (with_reducible refine ev_nil (hK _ _ ?_); clear hK K)
    | (with_reducible refine ed_nil (hK _ _ ?_); clear hK K)
    | ((first | with_reducible refine ev_cons (fun K' hK' => ?_) | with_reducible refine ed_cons (fun K' hK' => ?_) | (with_reducible refine ev_id ?_; refine ev_guard rfl (fun K' hK' => ?_)) | (with_reducible refine ed_id ?_; refine ed_guard rfl (fun K' hK' => ?_))); simp; repeat' (first | (with_reducible refine hK' _ _ ?_; clear hK' K') | (with_reducible refine Ret.use index_zero ?_; try simp) | (with_reducible refine And.intro ?_ ?_) | (with_reducible intro hg) | (clear hK' K'; omega)))
    | (with_reducible refine w_cond (fun A B hA hB => ?_); simp; repeat' (first | (with_reducible refine hA ?_; clear hA hB A B) | (with_reducible refine hB ?_; clear hA hB A B) | (with_reducible refine And.intro ?_ ?_) | (with_reducible intro hc)))
    | (with_reducible refine awp_seq ?_))
  all_goals simp
/-- What is sorted, without what no set may have, and each once. -/
theorem sort_is (l : List Int) : compactS (sortI (l.filter fun x => !!inB x)) = sortR l := by
  have hs := compactS_spec (l := sortI (l.filter fun x => !!inB x)) (by
    have := List.pairwise_mergeSort (le := fun x y : Int => decide (x ≤ y)) (fun a b c h1 h2 => by simp at *; omega) (fun a b => by simp; omega) (l.filter fun x => !!inB x)
    simpa [sortI] using this)
  have hm : ∀ x, x ∈ compactS (sortI (l.filter fun x => !!inB x)) ↔ x ∈ l ∧ 0 ≤ x ∧ x ≤ 1099511627776 := by
    intro x
    rw [hs.2, sortI, List.mem_mergeSort, List.mem_filter]
    simp [inB]
  refine IsSet.ext ⟨hs.1, fun x hx => ((hm x).1 hx).2⟩ (sortR_spec l).1 fun x => ?_
  rw [hm, (sortR_spec l).2]

theorem sort_callable : callable Try.prog 55 = true := by kernel_rfl
theorem sort_use {c : List Int} {m top : Nat} {H : Heap} {r : Nat} (hl : c.length = top) (hm : m ≤ top) (h0 : 0 < m) (hb : top ≤ 1099511627776) {K : AV → Heap → Prop}
    (k : ∀ s : List Int, s.length = top → s.take m = sortI (c.take m) → K (.tup []) (upd H r (some (.arr 1 3 (s.map I) top)))) :
    ACalls Try.prog w0 55 [.ref r 0 m top] (upd H r (some (.arr 1 3 (c.map I) top))) K := by
  have hsl : (sortI (c.take m)).length = m := by rw [sortI, List.length_mergeSort, List.length_take]; omega
  refine sort_acalls sortC sort_callable hl hm h0 (by omega) (upd_same _ _ _) ?_
  have := k (sortI (c.take m) ++ c.drop m) (by rw [List.length_append, hsl, List.length_drop]; omega) (by rw [List.take_append_of_le_length (by omega), List.take_of_length_le (by omega)])
  rw [upd_upd]
  exact this
theorem sort_none {r n : Nat} : Ret Try.prog w0 55 [.ref r 0 0 n] (.tup []) := by
  intro H
  refine ACalls.wks (args' := [.sl [] 0]) rfl (fun i a b h1 h2 => ?_) (sort_zero H)
  cases i with
  | zero =>
    simp at h1 h2
    subst h1; subst h2; exact wks_ref0
  | succ i => simp at h1
end Go.Am
