/- Contracts: Has, Meet, Minus of the reference. -/
import Derived.Test.YtbcgjjkchmgeoaaW2
namespace Go.Am
open Go Go.Proofs
set_option linter.unusedVariables false
set_option linter.unusedSimpArgs false
variable {w0 : World}
attribute [local irreducible] AWP ACalls
attribute [local congr] acalls_congr

theorem has2_ret {l : List Int} {x : Int} (hl : okLen l) : Ret Try.prog w0 47 [ints l, I x] (B (risesB (-1) l && decide (x ∈ l))) := by
  intro H
  refine w_enter Try.func47 rfl Try.ntmps47 (ts := [4]) rfl (by simp) (by kernel_rfl) ?_
  repeat' (first
    | (with_reducible refine awp_skip ?_)
    | (with_reducible refine then_any ?_)
    | (with_reducible refine then_ret ?_)
    | (with_reducible refine then_exit ?_)
    | (with_reducible refine inBlock_normal ?_)
    | (with_reducible refine inBlock_ret ?_)
    | (with_reducible refine inBlock_hit ?_)
    | (with_reducible refine inBlock_miss (by decide) ?_)
    | (with_reducible refine awp_ret ?_)
    | (with_reducible refine awp_exit ?_)
    | (with_reducible refine post_ret ?_)
    | (with_reducible refine post_normal ?_)
    | (with_reducible refine awp_block ?_)
    | (with_reducible refine v_reg [] (fun K hK => ?_))
    | (with_reducible refine v_reg1 [] (fun K hK => ?_))
    | (with_reducible refine v_draw mixed [] [] (by kernel_rfl) (fun K hK => ?_))
    | (with_reducible refine v_draw1 mixed [] [] (by kernel_rfl) (fun K hK => ?_))
    | (with_reducible refine ev_nil (hK _ _ ?_); clear hK K)
    | (with_reducible refine ed_nil (hK _ _ ?_); clear hK K)
    | ((first | with_reducible refine ev_cons (fun K' hK' => ?_) | with_reducible refine ed_cons (fun K' hK' => ?_) | (with_reducible refine ev_id ?_; refine ev_guard rfl (fun K' hK' => ?_)) | (with_reducible refine ed_id ?_; refine ed_guard rfl (fun K' hK' => ?_))); simp [ints]; repeat' (first | (with_reducible refine hK' _ _ ?_; clear hK' K') | (with_reducible refine Ret.use (may2_ret hl) ?_; try simp [ints]) | (with_reducible refine Ret.use (in_ret hl) ?_; try simp [ints]) | (with_reducible refine And.intro ?_ ?_) | (with_reducible intro hg) | (clear hK' K'; omega)))
    | (with_reducible refine w_cond (fun A B hA hB => ?_); simp [ints]; repeat' (first | (with_reducible refine hA ?_; clear hA hB A B) | (with_reducible refine hB ?_; clear hA hB A B) | (with_reducible refine And.intro ?_ ?_) | (with_reducible intro hc)))
    | (with_reducible refine awp_seq ?_))
  all_goals simp_all

/-- Few enough to be put together. -/
abbrev smLen {α : Type} (l : List α) : Prop := l.length ≤ 1099511627776

theorem meet2_ret {a b : List Int} (ha : smLen a) (hb : okLen b) : Ret Try.prog w0 36 [ints a, ints b] (ints (if risesB (-1) a && risesB (-1) b then a.filter (· ∈ b) else [])) := by
  intro H
  have ha' : okLen a := by omega
  refine w_enter Try.func36 rfl Try.ntmps36 (ts := [4]) rfl (by simp) (by kernel_rfl) ?_ |> ret_frz
  repeat' (first
    | (with_reducible refine awp_skip ?_)
    | (with_reducible refine then_any ?_)
    | (with_reducible refine then_ret ?_)
    | (with_reducible refine then_exit ?_)
    | (with_reducible refine inBlock_normal ?_)
    | (with_reducible refine inBlock_ret ?_)
    | (with_reducible refine inBlock_hit ?_)
    | (with_reducible refine inBlock_miss (by decide) ?_)
    | (with_reducible refine awp_ret ?_)
    | (with_reducible refine awp_exit ?_)
    | (with_reducible refine post_ret ?_)
    | (with_reducible refine post_normal ?_)
    | (with_reducible refine awp_block ?_)
    | (with_reducible refine v_reg [7] (fun K hK => ?_))
    | (with_reducible refine v_reg1 [7] (fun K hK => ?_))
    | (with_reducible refine v_draw mixed [7] [] (by kernel_rfl) (fun K hK => ?_))
    | (with_reducible refine v_draw1 mixed [7] [] (by kernel_rfl) (fun K hK => ?_))
    | (with_reducible refine ev_nil (hK _ _ ?_); clear hK K)
    | (with_reducible refine ed_nil (hK _ _ ?_); clear hK K)
    | ((first | with_reducible refine ev_cons (fun K' hK' => ?_) | with_reducible refine ed_cons (fun K' hK' => ?_) | (with_reducible refine ev_id ?_; refine ev_guard rfl (fun K' hK' => ?_)) | (with_reducible refine ed_id ?_; refine ed_guard rfl (fun K' hK' => ?_))); simp [ints]; repeat' (first | (with_reducible refine hK' _ _ ?_; clear hK' K') | (with_reducible refine And.intro ?_ ?_) | (with_reducible intro hg) | (clear hK' K'; omega)))
    | (with_reducible refine w_cond (fun A B hA hB => ?_); simp [ints]; repeat' (first | (with_reducible refine hA ?_; clear hA hB A B) | (with_reducible refine hB ?_; clear hA hB A B) | (with_reducible refine And.intro ?_ ?_) | (with_reducible intro hc)))
    | (with_reducible refine awp_seq ?_))
  rename_i r
  have hr : H r = none := hg
  clear hg
  have hlen : ∀ n, ((a.take n).filter (· ∈ b)).length ≤ n := fun n => Nat.le_trans (List.length_filter_le _ _) (by simp; omega)
  refine awp_loop (fun env h => ∃ (k : Nat), k ≤ a.length ∧ (k ≠ 0 → (risesB (-1) a && risesB (-1) b) = true) ∧ env 6 = I k ∧ env 0 = ints a ∧ env 1 = ints b ∧ 
      env 5 = .ref r 0 ((a.take k).filter (· ∈ b)).length ((a.take k).filter (· ∈ b)).length ∧ h = upd H r (some (.arr 1 3 (((a.take k).filter (· ∈ b)).map I) ((a.take k).filter (· ∈ b)).length))) (fun env _ => a.length - natA (env 6)) ?_ ?_
  · exact ⟨0, by simp [ints, upd_get]⟩
  rintro env h ⟨n, hn, hm, h6, h0, h1, h5, rfl⟩
  have hnat : natA (env 6) = n := by simp [h6]
  rw [hnat]; clear hnat
  have hln := hlen n
  by_cases hlt : n < a.length
  · have hf : (a.take (n + 1)).filter (· ∈ b) = (a.take n).filter (· ∈ b) ++ if a[n] ∈ b then [a[n]] else [] := by
      rw [List.take_succ_eq_append_getElem hlt, List.filter_append]; simp [List.filter_cons]
    generalize hout : (a.take n).filter (· ∈ b) = out at *
    repeat' (first
      | (with_reducible refine awp_skip ?_)
      | (with_reducible refine then_any ?_)
      | (with_reducible refine then_ret ?_)
      | (with_reducible refine then_exit ?_)
      | (with_reducible refine inBlock_normal ?_)
      | (with_reducible refine inBlock_ret ?_)
      | (with_reducible refine inBlock_hit ?_)
      | (with_reducible refine inBlock_miss (by decide) ?_)
      | (with_reducible refine awp_ret ?_)
      | (with_reducible refine awp_exit ?_)
      | (with_reducible refine post_ret ?_)
      | (with_reducible refine post_normal ?_)
      | (with_reducible refine awp_block ?_)
      | (with_reducible refine v_reg [] (fun K hK => ?_))
      | (with_reducible refine v_reg1 [] (fun K hK => ?_))
      | (with_reducible refine v_draw mixed [] [] (by kernel_rfl) (fun K hK => ?_))
      | (with_reducible refine v_draw1 mixed [] [] (by kernel_rfl) (fun K hK => ?_))
      | (with_reducible refine ev_nil (hK _ _ ?_); clear hK K)
      | (with_reducible refine ed_nil (hK _ _ ?_); clear hK K)
      | ((first | with_reducible refine ev_cons (fun K' hK' => ?_) | with_reducible refine ed_cons (fun K' hK' => ?_) | (with_reducible refine ev_id ?_; refine ev_guard rfl (fun K' hK' => ?_)) | (with_reducible refine ed_id ?_; refine ed_guard rfl (fun K' hK' => ?_))); simp [h6, h0, h1, h5, ints, hlt]; repeat' (first | (with_reducible refine hK' _ _ ?_; clear hK' K') | (with_reducible refine Ret.use (may2_ret ha') ?_; try simp [h6, h0, h1, h5, ints, hlt]) | (with_reducible refine Ret.use (may2_ret hb) ?_; try simp [h6, h0, h1, h5, ints, hlt]) | (with_reducible refine Ret.use (in_ret hb) ?_; try simp [h6, h0, h1, h5, ints, hlt]) | (with_reducible refine And.intro ?_ ?_) | (with_reducible intro hg) | (clear hK' K'; omega)))
      | (with_reducible refine w_cond (fun A B hA hB => ?_); simp [h6, h0, h1, h5, ints, hlt]; repeat' (first | (with_reducible refine hA ?_; clear hA hB A B) | (with_reducible refine hB ?_; clear hA hB A B) | (with_reducible refine And.intro ?_ ?_) | (with_reducible intro hc)))
      | (with_reducible refine awp_seq ?_))
    · rw [if_pos hc] at hf
      refine ⟨⟨n + 1, by omega, fun _ => by simp [*], by simp, by simp [h0], by simp [h1], ?_, ?_⟩, by simp; omega⟩
      · simp [hf]
      · simp [hf, upd_upd]
    · rw [if_neg hc] at hf
      refine ⟨⟨n + 1, by omega, fun _ => by simp [*], by simp, by simp [h0], by simp [h1], ?_, ?_⟩, by simp; omega⟩
      · simp [hf, h5]
      · simp [hf]
    all_goals
      have h00 : n = 0 := by
        cases n with
        | zero => rfl
        | succ m => have := hm (by omega); simp [*] at this
      subst h00
      have ho : out = [] := by rw [← hout]; rfl
      exact frz hr (by simp) rfl (by simp [*])
  · have : n = a.length := by omega
    subst this
    repeat' (first
      | (with_reducible refine awp_skip ?_)
      | (with_reducible refine then_any ?_)
      | (with_reducible refine then_ret ?_)
      | (with_reducible refine then_exit ?_)
      | (with_reducible refine inBlock_normal ?_)
      | (with_reducible refine inBlock_ret ?_)
      | (with_reducible refine inBlock_hit ?_)
      | (with_reducible refine inBlock_miss (by decide) ?_)
      | (with_reducible refine awp_ret ?_)
      | (with_reducible refine awp_exit ?_)
      | (with_reducible refine post_ret ?_)
      | (with_reducible refine post_normal ?_)
      | (with_reducible refine awp_block ?_)
      | (with_reducible refine v_reg [] (fun K hK => ?_))
      | (with_reducible refine v_reg1 [] (fun K hK => ?_))
      | (with_reducible refine v_draw mixed [] [] (by kernel_rfl) (fun K hK => ?_))
      | (with_reducible refine v_draw1 mixed [] [] (by kernel_rfl) (fun K hK => ?_))
      | (with_reducible refine ev_nil (hK _ _ ?_); clear hK K)
      | (with_reducible refine ed_nil (hK _ _ ?_); clear hK K)
      | ((first | with_reducible refine ev_cons (fun K' hK' => ?_) | with_reducible refine ed_cons (fun K' hK' => ?_) | (with_reducible refine ev_id ?_; refine ev_guard rfl (fun K' hK' => ?_)) | (with_reducible refine ed_id ?_; refine ed_guard rfl (fun K' hK' => ?_))); simp [h6, h0, h1, h5, ints]; repeat' (first | (with_reducible refine hK' _ _ ?_; clear hK' K') | (with_reducible refine And.intro ?_ ?_) | (with_reducible intro hg) | (clear hK' K'; omega)))
      | (with_reducible refine w_cond (fun A B hA hB => ?_); simp [h6, h0, h1, h5, ints]; repeat' (first | (with_reducible refine hA ?_; clear hA hB A B) | (with_reducible refine hB ?_; clear hA hB A B) | (with_reducible refine And.intro ?_ ?_) | (with_reducible intro hc)))
      | (with_reducible refine awp_seq ?_))
    refine frz hr (by simp) rfl ?_
    by_cases h0 : a = []
    · subst h0; simp
    · rw [if_pos (hm (by simp [h0]))]
      simp

theorem minus2_ret {a b : List Int} (ha : smLen a) (hb : okLen b) : Ret Try.prog w0 66 [ints a, ints b] (ints (if risesB (-1) a && risesB (-1) b then a.filter (fun x => !decide (x ∈ b)) else [])) := by
  intro H
  have ha' : okLen a := by omega
  refine w_enter Try.func66 rfl Try.ntmps66 (ts := [4]) rfl (by simp) (by kernel_rfl) ?_ |> ret_frz
  repeat' (first
    | (with_reducible refine awp_skip ?_)
    | (with_reducible refine then_any ?_)
    | (with_reducible refine then_ret ?_)
    | (with_reducible refine then_exit ?_)
    | (with_reducible refine inBlock_normal ?_)
    | (with_reducible refine inBlock_ret ?_)
    | (with_reducible refine inBlock_hit ?_)
    | (with_reducible refine inBlock_miss (by decide) ?_)
    | (with_reducible refine awp_ret ?_)
    | (with_reducible refine awp_exit ?_)
    | (with_reducible refine post_ret ?_)
    | (with_reducible refine post_normal ?_)
    | (with_reducible refine awp_block ?_)
    | (with_reducible refine v_reg [7] (fun K hK => ?_))
    | (with_reducible refine v_reg1 [7] (fun K hK => ?_))
    | (with_reducible refine v_draw mixed [7] [] (by kernel_rfl) (fun K hK => ?_))
    | (with_reducible refine v_draw1 mixed [7] [] (by kernel_rfl) (fun K hK => ?_))
    | (with_reducible refine ev_nil (hK _ _ ?_); clear hK K)
    | (with_reducible refine ed_nil (hK _ _ ?_); clear hK K)
    | ((first | with_reducible refine ev_cons (fun K' hK' => ?_) | with_reducible refine ed_cons (fun K' hK' => ?_) | (with_reducible refine ev_id ?_; refine ev_guard rfl (fun K' hK' => ?_)) | (with_reducible refine ed_id ?_; refine ed_guard rfl (fun K' hK' => ?_))); simp [ints]; repeat' (first | (with_reducible refine hK' _ _ ?_; clear hK' K') | (with_reducible refine And.intro ?_ ?_) | (with_reducible intro hg) | (clear hK' K'; omega)))
    | (with_reducible refine w_cond (fun A B hA hB => ?_); simp [ints]; repeat' (first | (with_reducible refine hA ?_; clear hA hB A B) | (with_reducible refine hB ?_; clear hA hB A B) | (with_reducible refine And.intro ?_ ?_) | (with_reducible intro hc)))
    | (with_reducible refine awp_seq ?_))
  rename_i r
  have hr : H r = none := hg
  clear hg
  have hlen : ∀ n, ((a.take n).filter (fun x => !decide (x ∈ b))).length ≤ n := fun n => Nat.le_trans (List.length_filter_le _ _) (by simp; omega)
  refine awp_loop (fun env h => ∃ (k : Nat), k ≤ a.length ∧ (k ≠ 0 → (risesB (-1) a && risesB (-1) b) = true) ∧ env 6 = I k ∧ env 0 = ints a ∧ env 1 = ints b ∧ 
      env 5 = .ref r 0 ((a.take k).filter (fun x => !decide (x ∈ b))).length ((a.take k).filter (fun x => !decide (x ∈ b))).length ∧ h = upd H r (some (.arr 1 3 (((a.take k).filter (fun x => !decide (x ∈ b))).map I) ((a.take k).filter (fun x => !decide (x ∈ b))).length))) (fun env _ => a.length - natA (env 6)) ?_ ?_
  · exact ⟨0, by simp [ints, upd_get]⟩
  rintro env h ⟨n, hn, hm, h6, h0, h1, h5, rfl⟩
  have hnat : natA (env 6) = n := by simp [h6]
  rw [hnat]; clear hnat
  have hln := hlen n
  by_cases hlt : n < a.length
  · have hf : (a.take (n + 1)).filter (fun x => !decide (x ∈ b)) = (a.take n).filter (fun x => !decide (x ∈ b)) ++ if (!decide (a[n] ∈ b)) = true then [a[n]] else [] := by
      rw [List.take_succ_eq_append_getElem hlt, List.filter_append]; simp [List.filter_cons]
    generalize hout : (a.take n).filter (fun x => !decide (x ∈ b)) = out at *
    repeat' (first
      | (with_reducible refine awp_skip ?_)
      | (with_reducible refine then_any ?_)
      | (with_reducible refine then_ret ?_)
      | (with_reducible refine then_exit ?_)
      | (with_reducible refine inBlock_normal ?_)
      | (with_reducible refine inBlock_ret ?_)
      | (with_reducible refine inBlock_hit ?_)
      | (with_reducible refine inBlock_miss (by decide) ?_)
      | (with_reducible refine awp_ret ?_)
      | (with_reducible refine awp_exit ?_)
      | (with_reducible refine post_ret ?_)
      | (with_reducible refine post_normal ?_)
      | (with_reducible refine awp_block ?_)
      | (with_reducible refine v_reg [] (fun K hK => ?_))
      | (with_reducible refine v_reg1 [] (fun K hK => ?_))
      | (with_reducible refine v_draw mixed [] [] (by kernel_rfl) (fun K hK => ?_))
      | (with_reducible refine v_draw1 mixed [] [] (by kernel_rfl) (fun K hK => ?_))
      | (with_reducible refine ev_nil (hK _ _ ?_); clear hK K)
      | (with_reducible refine ed_nil (hK _ _ ?_); clear hK K)
      | ((first | with_reducible refine ev_cons (fun K' hK' => ?_) | with_reducible refine ed_cons (fun K' hK' => ?_) | (with_reducible refine ev_id ?_; refine ev_guard rfl (fun K' hK' => ?_)) | (with_reducible refine ed_id ?_; refine ed_guard rfl (fun K' hK' => ?_))); simp [h6, h0, h1, h5, ints, hlt]; repeat' (first | (with_reducible refine hK' _ _ ?_; clear hK' K') | (with_reducible refine Ret.use (may2_ret ha') ?_; try simp [h6, h0, h1, h5, ints, hlt]) | (with_reducible refine Ret.use (may2_ret hb) ?_; try simp [h6, h0, h1, h5, ints, hlt]) | (with_reducible refine Ret.use (in_ret hb) ?_; try simp [h6, h0, h1, h5, ints, hlt]) | (with_reducible refine And.intro ?_ ?_) | (with_reducible intro hg) | (clear hK' K'; omega)))
      | (with_reducible refine w_cond (fun A B hA hB => ?_); simp [h6, h0, h1, h5, ints, hlt]; repeat' (first | (with_reducible refine hA ?_; clear hA hB A B) | (with_reducible refine hB ?_; clear hA hB A B) | (with_reducible refine And.intro ?_ ?_) | (with_reducible intro hc)))
      | (with_reducible refine awp_seq ?_))
    · rw [if_pos (by simp [hc])] at hf
      refine ⟨⟨n + 1, by omega, fun _ => by simp [*], by simp, by simp [h0], by simp [h1], ?_, ?_⟩, by simp; omega⟩
      · simp [hf]
      · simp [hf, upd_upd]
    · rw [if_neg (by simp [hc])] at hf
      refine ⟨⟨n + 1, by omega, fun _ => by simp [*], by simp, by simp [h0], by simp [h1], ?_, ?_⟩, by simp; omega⟩
      · simp [hf, h5]
      · simp [hf]
    all_goals
      have h00 : n = 0 := by
        cases n with
        | zero => rfl
        | succ m => have := hm (by omega); simp [*] at this
      subst h00
      have ho : out = [] := by rw [← hout]; rfl
      exact frz hr (by simp) rfl (by simp [*])
  · have : n = a.length := by omega
    subst this
    repeat' (first
      | (with_reducible refine awp_skip ?_)
      | (with_reducible refine then_any ?_)
      | (with_reducible refine then_ret ?_)
      | (with_reducible refine then_exit ?_)
      | (with_reducible refine inBlock_normal ?_)
      | (with_reducible refine inBlock_ret ?_)
      | (with_reducible refine inBlock_hit ?_)
      | (with_reducible refine inBlock_miss (by decide) ?_)
      | (with_reducible refine awp_ret ?_)
      | (with_reducible refine awp_exit ?_)
      | (with_reducible refine post_ret ?_)
      | (with_reducible refine post_normal ?_)
      | (with_reducible refine awp_block ?_)
      | (with_reducible refine v_reg [] (fun K hK => ?_))
      | (with_reducible refine v_reg1 [] (fun K hK => ?_))
      | (with_reducible refine v_draw mixed [] [] (by kernel_rfl) (fun K hK => ?_))
      | (with_reducible refine v_draw1 mixed [] [] (by kernel_rfl) (fun K hK => ?_))
      | (with_reducible refine ev_nil (hK _ _ ?_); clear hK K)
      | (with_reducible refine ed_nil (hK _ _ ?_); clear hK K)
      | ((first | with_reducible refine ev_cons (fun K' hK' => ?_) | with_reducible refine ed_cons (fun K' hK' => ?_) | (with_reducible refine ev_id ?_; refine ev_guard rfl (fun K' hK' => ?_)) | (with_reducible refine ed_id ?_; refine ed_guard rfl (fun K' hK' => ?_))); simp [h6, h0, h1, h5, ints]; repeat' (first | (with_reducible refine hK' _ _ ?_; clear hK' K') | (with_reducible refine And.intro ?_ ?_) | (with_reducible intro hg) | (clear hK' K'; omega)))
      | (with_reducible refine w_cond (fun A B hA hB => ?_); simp [h6, h0, h1, h5, ints]; repeat' (first | (with_reducible refine hA ?_; clear hA hB A B) | (with_reducible refine hB ?_; clear hA hB A B) | (with_reducible refine And.intro ?_ ?_) | (with_reducible intro hc)))
      | (with_reducible refine awp_seq ?_))
    refine frz hr (by simp) rfl ?_
    by_cases h0 : a = []
    · subst h0; simp
    · rw [if_pos (hm (by simp [h0]))]
      simp


theorem sub2_ret {a b : List Int} (ha : okLen a) (hb : okLen b) : Ret Try.prog w0 45 [ints a, ints b] (B (risesB (-1) a && risesB (-1) b && a.all fun x => decide (x ∈ b))) := by
  intro H
  refine w_enter Try.func45 rfl Try.ntmps45 (ts := [4]) rfl (by simp) (by kernel_rfl) ?_
  repeat' (first
    | (with_reducible refine awp_skip ?_)
    | (with_reducible refine then_any ?_)
    | (with_reducible refine then_ret ?_)
    | (with_reducible refine then_exit ?_)
    | (with_reducible refine inBlock_normal ?_)
    | (with_reducible refine inBlock_ret ?_)
    | (with_reducible refine inBlock_hit ?_)
    | (with_reducible refine inBlock_miss (by decide) ?_)
    | (with_reducible refine awp_ret ?_)
    | (with_reducible refine awp_exit ?_)
    | (with_reducible refine post_ret ?_)
    | (with_reducible refine post_normal ?_)
    | (with_reducible refine awp_block ?_)
    | (with_reducible refine v_reg [] (fun K hK => ?_))
    | (with_reducible refine v_reg1 [] (fun K hK => ?_))
    | (with_reducible refine v_draw mixed [] [] (by kernel_rfl) (fun K hK => ?_))
    | (with_reducible refine v_draw1 mixed [] [] (by kernel_rfl) (fun K hK => ?_))
    | (with_reducible refine ev_nil (hK _ _ ?_); clear hK K)
    | (with_reducible refine ed_nil (hK _ _ ?_); clear hK K)
    | ((first | with_reducible refine ev_cons (fun K' hK' => ?_) | with_reducible refine ed_cons (fun K' hK' => ?_) | (with_reducible refine ev_id ?_; refine ev_guard rfl (fun K' hK' => ?_)) | (with_reducible refine ed_id ?_; refine ed_guard rfl (fun K' hK' => ?_))); simp [ints]; repeat' (first | (with_reducible refine hK' _ _ ?_; clear hK' K') | (with_reducible refine And.intro ?_ ?_) | (with_reducible intro hg) | (clear hK' K'; omega)))
    | (with_reducible refine w_cond (fun A B hA hB => ?_); simp [ints]; repeat' (first | (with_reducible refine hA ?_; clear hA hB A B) | (with_reducible refine hB ?_; clear hA hB A B) | (with_reducible refine And.intro ?_ ?_) | (with_reducible intro hc)))
    | (with_reducible refine awp_seq ?_))
  refine awp_loop (fun env h => ∃ (k : Nat), k ≤ a.length ∧ env 5 = I k ∧ env 0 = ints a ∧ env 1 = ints b ∧ ((a.take k).all fun x => decide (x ∈ b)) = true ∧ h = H) (fun env _ => a.length - natA (env 5)) ?_ ?_
  · exact ⟨0, by simp [ints, upd_get]⟩
  rintro env h ⟨n, hn, h5, h0, h1, ht, rfl⟩
  have hnat : natA (env 5) = n := by simp [h5]
  rw [hnat]; clear hnat
  by_cases hlt : n < a.length
  · have hf : ((a.take (n + 1)).all fun x => decide (x ∈ b)) = decide (a[n] ∈ b) := by
      rw [List.take_succ_eq_append_getElem hlt, List.all_append, ht]; simp
    repeat' (first
      | (with_reducible refine awp_skip ?_)
      | (with_reducible refine then_any ?_)
      | (with_reducible refine then_ret ?_)
      | (with_reducible refine then_exit ?_)
      | (with_reducible refine inBlock_normal ?_)
      | (with_reducible refine inBlock_ret ?_)
      | (with_reducible refine inBlock_hit ?_)
      | (with_reducible refine inBlock_miss (by decide) ?_)
      | (with_reducible refine awp_ret ?_)
      | (with_reducible refine awp_exit ?_)
      | (with_reducible refine post_ret ?_)
      | (with_reducible refine post_normal ?_)
      | (with_reducible refine awp_block ?_)
      | (with_reducible refine v_reg [] (fun K hK => ?_))
      | (with_reducible refine v_reg1 [] (fun K hK => ?_))
      | (with_reducible refine v_draw mixed [] [] (by kernel_rfl) (fun K hK => ?_))
      | (with_reducible refine v_draw1 mixed [] [] (by kernel_rfl) (fun K hK => ?_))
      | (with_reducible refine ev_nil (hK _ _ ?_); clear hK K)
      | (with_reducible refine ed_nil (hK _ _ ?_); clear hK K)
      | ((first | with_reducible refine ev_cons (fun K' hK' => ?_) | with_reducible refine ed_cons (fun K' hK' => ?_) | (with_reducible refine ev_id ?_; refine ev_guard rfl (fun K' hK' => ?_)) | (with_reducible refine ed_id ?_; refine ed_guard rfl (fun K' hK' => ?_))); simp [h0, h1, h5, ints, hlt]; repeat' (first | (with_reducible refine hK' _ _ ?_; clear hK' K') | (with_reducible refine Ret.use (in_ret hb) ?_; try simp [h0, h1, h5, ints, hlt]) | (with_reducible refine And.intro ?_ ?_) | (with_reducible intro hg) | (clear hK' K'; omega)))
      | (with_reducible refine w_cond (fun A B hA hB => ?_); simp [h0, h1, h5, ints, hlt]; repeat' (first | (with_reducible refine hA ?_; clear hA hB A B) | (with_reducible refine hB ?_; clear hA hB A B) | (with_reducible refine And.intro ?_ ?_) | (with_reducible intro hc)))
      | (with_reducible refine awp_seq ?_))
    · have : (a.all fun x => decide (x ∈ b)) = false := by
        rw [List.all_eq_false]; exact ⟨a[n], by simp, by simpa using hc⟩
      simp [this]
    · exact ⟨⟨n + 1, by omega, by simp, by simp [h0], by simp [h1], by rw [hf]; simp [hc], rfl⟩, by simp; omega⟩
  · have : n = a.length := by omega
    subst this
    rw [List.take_length] at ht
    repeat' (first
      | (with_reducible refine awp_skip ?_)
      | (with_reducible refine then_any ?_)
      | (with_reducible refine then_ret ?_)
      | (with_reducible refine then_exit ?_)
      | (with_reducible refine inBlock_normal ?_)
      | (with_reducible refine inBlock_ret ?_)
      | (with_reducible refine inBlock_hit ?_)
      | (with_reducible refine inBlock_miss (by decide) ?_)
      | (with_reducible refine awp_ret ?_)
      | (with_reducible refine awp_exit ?_)
      | (with_reducible refine post_ret ?_)
      | (with_reducible refine post_normal ?_)
      | (with_reducible refine awp_block ?_)
      | (with_reducible refine v_reg [] (fun K hK => ?_))
      | (with_reducible refine v_reg1 [] (fun K hK => ?_))
      | (with_reducible refine v_draw mixed [] [] (by kernel_rfl) (fun K hK => ?_))
      | (with_reducible refine v_draw1 mixed [] [] (by kernel_rfl) (fun K hK => ?_))
      | (with_reducible refine ev_nil (hK _ _ ?_); clear hK K)
      | (with_reducible refine ed_nil (hK _ _ ?_); clear hK K)
      | ((first | with_reducible refine ev_cons (fun K' hK' => ?_) | with_reducible refine ed_cons (fun K' hK' => ?_) | (with_reducible refine ev_id ?_; refine ev_guard rfl (fun K' hK' => ?_)) | (with_reducible refine ed_id ?_; refine ed_guard rfl (fun K' hK' => ?_))); simp [h0, h1, h5, ints]; repeat' (first | (with_reducible refine hK' _ _ ?_; clear hK' K') | (with_reducible refine Ret.use (may2_ret ha) ?_; try simp [h0, h1, h5, ints]) | (with_reducible refine Ret.use (may2_ret hb) ?_; try simp [h0, h1, h5, ints]) | (with_reducible refine And.intro ?_ ?_) | (with_reducible intro hg) | (clear hK' K'; omega)))
      | (with_reducible refine w_cond (fun A B hA hB => ?_); simp [h0, h1, h5, ints]; repeat' (first | (with_reducible refine hA ?_; clear hA hB A B) | (with_reducible refine hB ?_; clear hA hB A B) | (with_reducible refine And.intro ?_ ?_) | (with_reducible intro hc)))
      | (with_reducible refine awp_seq ?_))
    all_goals simp_all

/-- The numbers below n. -/
def upto (n : Nat) : List Int := (List.range n).map Int.ofNat
@[simp] theorem upto_length (n : Nat) : (upto n).length = n := by simp [upto]
theorem upto_succ (n : Nat) : upto (n + 1) = upto n ++ [(n : Int)] := by simp [upto, List.range_succ]
theorem upto_zero : upto 0 = [] := rfl
theorem upto_get {n k : Nat} (h : k < (upto n).length) : (upto n)[k] = k := by simp [upto]
theorem mem_upto {n : Nat} {x : Int} : x ∈ upto n ↔ 0 ≤ x ∧ x < n := by
  simp only [upto, List.mem_map, List.mem_range]
  constructor
  · rintro ⟨k, hk, rfl⟩; simp only [Int.ofNat_eq_natCast]; omega
  · intro h; exact ⟨x.toNat, by omega, by simp only [Int.ofNat_eq_natCast]; omega⟩
theorem cut_upto (n : Nat) : cut 1 ((upto n).map I) 0 n = ints (upto n) := by
  have := cut_map I (upto n)
  rw [upto_length] at this
  rw [ints, upto_length]; exact this

/-- All numbers below n, if they are not too many. -/
def allL (n : Int) : List Int := if n ≤ 100000 then upto n.toNat else []

theorem all2_ret {n : Int} : Ret Try.prog w0 46 [I n] (ints (allL n)) := by
  intro H
  refine w_enter Try.func46 rfl Try.ntmps46 (ts := [2]) rfl (by simp) (by kernel_rfl) ?_ |> ret_frz
  repeat' (first
    | (with_reducible refine awp_skip ?_)
    | (with_reducible refine then_any ?_)
    | (with_reducible refine then_ret ?_)
    | (with_reducible refine then_exit ?_)
    | (with_reducible refine inBlock_normal ?_)
    | (with_reducible refine inBlock_ret ?_)
    | (with_reducible refine inBlock_hit ?_)
    | (with_reducible refine inBlock_miss (by decide) ?_)
    | (with_reducible refine awp_ret ?_)
    | (with_reducible refine awp_exit ?_)
    | (with_reducible refine post_ret ?_)
    | (with_reducible refine post_normal ?_)
    | (with_reducible refine awp_block ?_)
    | (with_reducible refine v_reg [5] (fun K hK => ?_))
    | (with_reducible refine v_reg1 [5] (fun K hK => ?_))
    | (with_reducible refine v_draw mixed [5] [] (by kernel_rfl) (fun K hK => ?_))
    | (with_reducible refine v_draw1 mixed [5] [] (by kernel_rfl) (fun K hK => ?_))
    | (with_reducible refine ev_nil (hK _ _ ?_); clear hK K)
    | (with_reducible refine ed_nil (hK _ _ ?_); clear hK K)
    | ((first | with_reducible refine ev_cons (fun K' hK' => ?_) | with_reducible refine ed_cons (fun K' hK' => ?_) | (with_reducible refine ev_id ?_; refine ev_guard rfl (fun K' hK' => ?_)) | (with_reducible refine ed_id ?_; refine ed_guard rfl (fun K' hK' => ?_))); simp [ints]; repeat' (first | (with_reducible refine hK' _ _ ?_; clear hK' K') | (with_reducible refine And.intro ?_ ?_) | (with_reducible intro hg) | (clear hK' K'; omega)))
    | (with_reducible refine w_cond (fun A B hA hB => ?_); simp [ints]; repeat' (first | (with_reducible refine hA ?_; clear hA hB A B) | (with_reducible refine hB ?_; clear hA hB A B) | (with_reducible refine And.intro ?_ ?_) | (with_reducible intro hc)))
    | (with_reducible refine awp_seq ?_))
  rename_i r
  have hr : H r = none := hg
  clear hg
  refine awp_loop (fun env h => ∃ (k : Nat), (k ≠ 0 → k ≤ n ∧ n ≤ 100000) ∧ env 4 = I k ∧ env 0 = I n ∧ env 3 = .ref r 0 k k ∧ h = upd H r (some (.arr 1 3 ((upto k).map I) k))) (fun env _ => n.toNat - natA (env 4)) ?_ ?_
  · exact ⟨0, by simp [ints, upd_get, upto_zero]⟩
  rintro env h ⟨k, hk, h4, h0, h3, rfl⟩
  have hnat : natA (env 4) = k := by simp [h4]
  rw [hnat]; clear hnat
  repeat' (first
    | (with_reducible refine awp_skip ?_)
    | (with_reducible refine then_any ?_)
    | (with_reducible refine then_ret ?_)
    | (with_reducible refine then_exit ?_)
    | (with_reducible refine inBlock_normal ?_)
    | (with_reducible refine inBlock_ret ?_)
    | (with_reducible refine inBlock_hit ?_)
    | (with_reducible refine inBlock_miss (by decide) ?_)
    | (with_reducible refine awp_ret ?_)
    | (with_reducible refine awp_exit ?_)
    | (with_reducible refine post_ret ?_)
    | (with_reducible refine post_normal ?_)
    | (with_reducible refine awp_block ?_)
    | (with_reducible refine v_reg [] (fun K hK => ?_))
    | (with_reducible refine v_reg1 [] (fun K hK => ?_))
    | (with_reducible refine v_draw mixed [] [] (by kernel_rfl) (fun K hK => ?_))
    | (with_reducible refine v_draw1 mixed [] [] (by kernel_rfl) (fun K hK => ?_))
    | (with_reducible refine ev_nil (hK _ _ ?_); clear hK K)
    | (with_reducible refine ed_nil (hK _ _ ?_); clear hK K)
    | ((first | with_reducible refine ev_cons (fun K' hK' => ?_) | with_reducible refine ed_cons (fun K' hK' => ?_) | (with_reducible refine ev_id ?_; refine ev_guard rfl (fun K' hK' => ?_)) | (with_reducible refine ed_id ?_; refine ed_guard rfl (fun K' hK' => ?_))); simp [h0, h3, h4]; repeat' (first | (with_reducible refine hK' _ _ ?_; clear hK' K') | (with_reducible refine And.intro ?_ ?_) | (with_reducible intro hg) | (clear hK' K'; omega)))
    | (with_reducible refine w_cond (fun A B hA hB => ?_); simp [h0, h3, h4]; repeat' (first | (with_reducible refine hA ?_; clear hA hB A B) | (with_reducible refine hB ?_; clear hA hB A B) | (with_reducible refine And.intro ?_ ?_) | (with_reducible intro hc)))
    | (with_reducible refine awp_seq ?_))
  · exact ⟨⟨k + 1, fun _ => by omega, by simp, by simp [h0], by simp, by simp [upd_upd, upto_succ]⟩, by simp; omega⟩
  · have h00 : k = 0 := by omega
    subst h00
    exact frz hr (by simp) rfl (by simp [allL, upto_zero, show ¬ n ≤ 100000 by omega])
  · refine frz hr (by simp) rfl ?_
    rw [cut_upto]
    by_cases hk0 : k = 0
    · subst hk0
      have : n.toNat = 0 := by omega
      simp [allL, this, upto_zero]
    · have : n.toNat = k := by omega
      simp [allL, this, (hk hk0).2]

end Go.Am
