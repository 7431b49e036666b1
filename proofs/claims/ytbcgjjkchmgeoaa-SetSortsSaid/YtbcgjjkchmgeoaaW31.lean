/- The laws of chapter 02. -/
import Derived.Test.YtbcgjjkchmgeoaaW30
namespace Go.Am
open Go Go.Proofs
set_option linter.unusedVariables false
set_option linter.unusedSimpArgs false
variable {w0 : World}
attribute [local irreducible] AWP ACalls
attribute [local congr] acalls_congr

theorem allL_length (n : Int) : (allL n).length ≤ 100000 := by
  unfold allL
  split
  · rw [upto_length]; omega
  · simp
theorem sortR_length (l : List Int) : (sortR l).length ≤ l.length := by
  rw [← sort_is]
  refine Nat.le_trans (compactS_length _) ?_
  rw [sortI, List.length_mergeSort]
  exact List.length_filter_le _ _
theorem unionL_length (a b : List Int) : (unionL a b).length ≤ a.length + b.length := by
  cases ha : risesB (-1) a with
  | false => simp [unionL, ha]
  | true =>
    cases hb : risesB (-1) b with
    | false => simp [unionL, ha, hb]
    | true => exact union_len_le (rises_iff.1 ha) (rises_iff.1 hb)
theorem meetL_length (a b : List Int) : (meetL a b).length ≤ a.length := by
  cases ha : risesB (-1) a with
  | false => simp [meetL, ha]
  | true =>
    cases hb : risesB (-1) b with
    | false => simp [meetL, ha, hb]
    | true => exact meet_len_le (rises_iff.1 ha) (rises_iff.1 hb)
theorem minusL_length (a b : List Int) : (minusL a b).length ≤ a.length := by
  cases ha : risesB (-1) a with
  | false => simp [minusL, ha]
  | true =>
    cases hb : risesB (-1) b with
    | false => simp [minusL, ha, hb]
    | true => exact minus_len_le (rises_iff.1 ha) (rises_iff.1 hb)

/-- The same is the same. -/
theorem self_ret {a : List Int} (ha : okLen a) : Ret Try.prog w0 28 [ints a, ints a] (B true) := by simpa using same_ret (w0 := w0) ha ha

set_option maxHeartbeats 4000000 in
theorem setTells_ret {a b : List Int} {x : Int} (ha : a.length ≤ 17592186044416) (hb : b.length ≤ 17592186044416) : Ret Try.prog w0 18 [ints a, ints b, I x] (B true) := by
  intro H
  refine w_enter Try.func18 rfl Try.ntmps18 (ts := [6]) rfl (by simp) (by kernel_rfl) ?_
  by_cases h1 : a.length ≤ 100
  rotate_left
  · have h1' : (100 : Int) < a.length := by omega
    repeat' (first
      | (with_reducible refine awp_skip ?_)
      | (with_reducible refine then_any ?_)
      | (with_reducible refine then_ret ?_)
      | (with_reducible refine then_exit ?_)
      | (with_reducible refine inBlock_normal ?_)
      | (with_reducible refine inBlock_ret ?_)
      | (with_reducible refine inBlock_hit ?_)
      | (with_reducible refine inBlock_miss (by decide) ?_)
      | (with_reducible refine awp_ret ?_)
      | (with_reducible refine awp_exit ?_)
      | (with_reducible refine post_ret ?_)
      | (with_reducible refine post_normal ?_)
      | (with_reducible refine awp_block ?_)
      | (with_reducible refine v_reg [] (fun K hK => ?_))
      | (with_reducible refine v_reg1 [] (fun K hK => ?_))
      | (with_reducible refine v_draw mixed [] [] (by kernel_rfl) (fun K hK => ?_))
      | (with_reducible refine v_draw1 mixed [] [] (by kernel_rfl) (fun K hK => ?_))
      | (with_reducible refine ev_nil (hK _ _ ?_); clear hK K)
      | (with_reducible refine ed_nil (hK _ _ ?_); clear hK K)
      | ((first | with_reducible refine ev_cons (fun K' hK' => ?_) | with_reducible refine ed_cons (fun K' hK' => ?_) | (with_reducible refine ev_id ?_; refine ev_guard rfl (fun K' hK' => ?_)) | (with_reducible refine ed_id ?_; refine ed_guard rfl (fun K' hK' => ?_))); simp [ints, h1']; repeat' (first | (with_reducible refine hK' _ _ ?_; clear hK' K') | (with_reducible refine Ret.use fixed2_ret ?_; try simp [ints, h1']) | (with_reducible refine And.intro ?_ ?_) | (with_reducible intro hg) | (clear hK' K'; omega)))
      | (with_reducible refine w_cond (fun A B hA hB => ?_); simp [ints, h1']; repeat' (first | (with_reducible refine hA ?_; clear hA hB A B) | (with_reducible refine hB ?_; clear hA hB A B) | (with_reducible refine And.intro ?_ ?_) | (with_reducible intro hc)))
      | (with_reducible refine awp_seq ?_))
    all_goals simp
  by_cases h2 : b.length ≤ 100
  rotate_left
  · have h2' : (100 : Int) < b.length := by omega
    repeat' (first
      | (with_reducible refine awp_skip ?_)
      | (with_reducible refine then_any ?_)
      | (with_reducible refine then_ret ?_)
      | (with_reducible refine then_exit ?_)
      | (with_reducible refine inBlock_normal ?_)
      | (with_reducible refine inBlock_ret ?_)
      | (with_reducible refine inBlock_hit ?_)
      | (with_reducible refine inBlock_miss (by decide) ?_)
      | (with_reducible refine awp_ret ?_)
      | (with_reducible refine awp_exit ?_)
      | (with_reducible refine post_ret ?_)
      | (with_reducible refine post_normal ?_)
      | (with_reducible refine awp_block ?_)
      | (with_reducible refine v_reg [] (fun K hK => ?_))
      | (with_reducible refine v_reg1 [] (fun K hK => ?_))
      | (with_reducible refine v_draw mixed [] [] (by kernel_rfl) (fun K hK => ?_))
      | (with_reducible refine v_draw1 mixed [] [] (by kernel_rfl) (fun K hK => ?_))
      | (with_reducible refine ev_nil (hK _ _ ?_); clear hK K)
      | (with_reducible refine ed_nil (hK _ _ ?_); clear hK K)
      | ((first | with_reducible refine ev_cons (fun K' hK' => ?_) | with_reducible refine ed_cons (fun K' hK' => ?_) | (with_reducible refine ev_id ?_; refine ev_guard rfl (fun K' hK' => ?_)) | (with_reducible refine ed_id ?_; refine ed_guard rfl (fun K' hK' => ?_))); simp [ints, h2']; repeat' (first | (with_reducible refine hK' _ _ ?_; clear hK' K') | (with_reducible refine Ret.use fixed2_ret ?_; try simp [ints, h2']) | (with_reducible refine And.intro ?_ ?_) | (with_reducible intro hg) | (clear hK' K'; omega)))
      | (with_reducible refine w_cond (fun A B hA hB => ?_); simp [ints, h2']; repeat' (first | (with_reducible refine hA ?_; clear hA hB A B) | (with_reducible refine hB ?_; clear hA hB A B) | (with_reducible refine And.intro ?_ ?_) | (with_reducible intro hc)))
      | (with_reducible refine awp_seq ?_))
    all_goals simp
  have h1' : ¬ (100 : Int) < a.length := by omega
  have h2' : ¬ (100 : Int) < b.length := by omega
  have hs1 := sub_ret (w0 := w0) (a := a) (b := b) (by omega) (by omega)
  have hs2 := sub2_ret (w0 := w0) (a := a) (b := b) (by omega) (by omega)
  rw [sub_R] at hs2
  have hu := union2_ret (w0 := w0) (a := a) (b := b) (by simp only [smLen, List.length_append]; omega)
  rw [← union_R] at hu
  have hm := meet2_ret (w0 := w0) (a := a) (b := b) (by omega) (by omega)
  rw [meet_R] at hm
  have hn := minus2_ret (w0 := w0) (a := a) (b := b) (by omega) (by omega)
  rw [minus_R] at hn
  have hu1 := unionL_length a b
  have hm1 := meetL_length a b
  have hn1 := minusL_length a b
  have hs := sortR_length a
  have hal := allL_length x
  have hin1 := has_ret (w0 := w0) (l := a) (x := x) (by omega)
  have hin2 := has2_ret (w0 := w0) (l := a) (x := x) (by omega)
  have hma := may_ret (w0 := w0) (l := a) (by omega)
  have hma2 := may2_ret (w0 := w0) (l := a) (by omega)
  have hfin : ∀ hh : Prop, hh → hh := fun _ h => h
  generalize (risesB (-1) a && decide (x ∈ a)) = bin at *
  generalize (risesB (-1) a && risesB (-1) b && decide ((meetL a b).length = a.length)) = bsub at *
  generalize risesB (-1) a = bma at *
  have hso1 := set_sort_ret (w0 := w0) (l := a) (by omega)
  have hso2 := sort2_ret (w0 := w0) (l := a) (by omega)
  have hun := union_ret (w0 := w0) (a := a) (b := b) (by omega) (by omega)
  have hme := meet_ret (w0 := w0) (a := a) (b := b) (by omega) (by omega)
  have hmi := minus_ret (w0 := w0) (a := a) (b := b) (by omega) (by omega)
  have e1 := self_ret (w0 := w0) (a := sortR a) (by omega)
  have e2 := self_ret (w0 := w0) (a := allL x) (by omega)
  have e3 := self_ret (w0 := w0) (a := unionL a b) (by omega)
  have e4 := self_ret (w0 := w0) (a := meetL a b) (by omega)
  have e5 := self_ret (w0 := w0) (a := minusL a b) (by omega)
  by_cases h3 : x ≤ 1000
  · have h3' : ¬ 1000 < x := by omega
    repeat' (first
      | (with_reducible refine awp_skip ?_)
      | (with_reducible refine then_any ?_)
      | (with_reducible refine then_ret ?_)
      | (with_reducible refine then_exit ?_)
      | (with_reducible refine inBlock_normal ?_)
      | (with_reducible refine inBlock_ret ?_)
      | (with_reducible refine inBlock_hit ?_)
      | (with_reducible refine inBlock_miss (by decide) ?_)
      | (with_reducible refine awp_ret ?_)
      | (with_reducible refine awp_exit ?_)
      | (with_reducible refine post_ret ?_)
      | (with_reducible refine post_normal ?_)
      | (with_reducible refine awp_block ?_)
      | (with_reducible refine v_reg [] (fun K hK => ?_))
      | (with_reducible refine v_reg1 [] (fun K hK => ?_))
      | (with_reducible refine v_draw mixed [] [] (by kernel_rfl) (fun K hK => ?_))
      | (with_reducible refine v_draw1 mixed [] [] (by kernel_rfl) (fun K hK => ?_))
      | (with_reducible refine ev_nil (hK _ _ ?_); clear hK K)
      | (with_reducible refine ed_nil (hK _ _ ?_); clear hK K)
      | ((first | with_reducible refine ev_cons (fun K' hK' => ?_) | with_reducible refine ed_cons (fun K' hK' => ?_) | (with_reducible refine ev_id ?_; refine ev_guard rfl (fun K' hK' => ?_)) | (with_reducible refine ed_id ?_; refine ed_guard rfl (fun K' hK' => ?_))); simp [h1', h2', h3']; repeat' (first | (with_reducible refine hK' _ _ ?_; clear hK' K') | (with_reducible refine Ret.use fixed2_ret ?_; try simp [h1', h2', h3']) | (with_reducible refine Ret.use hma ?_; try simp [h1', h2', h3']) | (with_reducible refine Ret.use hma2 ?_; try simp [h1', h2', h3']) | (with_reducible refine Ret.use hin1 ?_; try simp [h1', h2', h3']) | (with_reducible refine Ret.use hin2 ?_; try simp [h1', h2', h3']) | (with_reducible refine Ret.use hs1 ?_; try simp [h1', h2', h3']) | (with_reducible refine Ret.use hs2 ?_; try simp [h1', h2', h3']) | (with_reducible refine Ret.use hso1 ?_; try simp [h1', h2', h3']) | (with_reducible refine Ret.use hso2 ?_; try simp [h1', h2', h3']) | (with_reducible refine Ret.use all_ret ?_; try simp [h1', h2', h3']) | (with_reducible refine Ret.use all2_ret ?_; try simp [h1', h2', h3']) | (with_reducible refine Ret.use hun ?_; try simp [h1', h2', h3']) | (with_reducible refine Ret.use hu ?_; try simp [h1', h2', h3']) | (with_reducible refine Ret.use hme ?_; try simp [h1', h2', h3']) | (with_reducible refine Ret.use hm ?_; try simp [h1', h2', h3']) | (with_reducible refine Ret.use hmi ?_; try simp [h1', h2', h3']) | (with_reducible refine Ret.use hn ?_; try simp [h1', h2', h3']) | (with_reducible refine Ret.use e1 ?_; try simp [h1', h2', h3']) | (with_reducible refine Ret.use e2 ?_; try simp [h1', h2', h3']) | (with_reducible refine Ret.use e3 ?_; try simp [h1', h2', h3']) | (with_reducible refine Ret.use e4 ?_; try simp [h1', h2', h3']) | (with_reducible refine Ret.use e5 ?_; try simp [h1', h2', h3']) | (with_reducible refine And.intro ?_ ?_) | (with_reducible intro hg) | (clear hK' K'; omega)))
      | (with_reducible refine w_cond (fun A B hA hB => ?_); simp [h1', h2', h3']; repeat' (first | (with_reducible refine hA ?_; clear hA hB A B) | (with_reducible refine hB ?_; clear hA hB A B) | (with_reducible refine And.intro ?_ ?_) | (with_reducible intro hc)))
      | (with_reducible refine awp_seq ?_))
    all_goals simp
  · by_cases h4 : x ≤ 100000
    · have h3' : 1000 < x := by omega
      repeat' (first
        | (with_reducible refine awp_skip ?_)
        | (with_reducible refine then_any ?_)
        | (with_reducible refine then_ret ?_)
        | (with_reducible refine then_exit ?_)
        | (with_reducible refine inBlock_normal ?_)
        | (with_reducible refine inBlock_ret ?_)
        | (with_reducible refine inBlock_hit ?_)
        | (with_reducible refine inBlock_miss (by decide) ?_)
        | (with_reducible refine awp_ret ?_)
        | (with_reducible refine awp_exit ?_)
        | (with_reducible refine post_ret ?_)
        | (with_reducible refine post_normal ?_)
        | (with_reducible refine awp_block ?_)
        | (with_reducible refine v_reg [] (fun K hK => ?_))
        | (with_reducible refine v_reg1 [] (fun K hK => ?_))
        | (with_reducible refine v_draw mixed [] [] (by kernel_rfl) (fun K hK => ?_))
        | (with_reducible refine v_draw1 mixed [] [] (by kernel_rfl) (fun K hK => ?_))
        | (with_reducible refine ev_nil (hK _ _ ?_); clear hK K)
        | (with_reducible refine ed_nil (hK _ _ ?_); clear hK K)
        | ((first | with_reducible refine ev_cons (fun K' hK' => ?_) | with_reducible refine ed_cons (fun K' hK' => ?_) | (with_reducible refine ev_id ?_; refine ev_guard rfl (fun K' hK' => ?_)) | (with_reducible refine ed_id ?_; refine ed_guard rfl (fun K' hK' => ?_))); simp [h1', h2', h3', h4]; repeat' (first | (with_reducible refine hK' _ _ ?_; clear hK' K') | (with_reducible refine Ret.use fixed2_ret ?_; try simp [h1', h2', h3', h4]) | (with_reducible refine And.intro ?_ ?_) | (with_reducible intro hg) | (clear hK' K'; omega)))
        | (with_reducible refine w_cond (fun A B hA hB => ?_); simp [h1', h2', h3', h4]; repeat' (first | (with_reducible refine hA ?_; clear hA hB A B) | (with_reducible refine hB ?_; clear hA hB A B) | (with_reducible refine And.intro ?_ ?_) | (with_reducible intro hc)))
        | (with_reducible refine awp_seq ?_))
      all_goals simp
    · have h3' : 1000 < x := by omega
      repeat' (first
        | (with_reducible refine awp_skip ?_)
        | (with_reducible refine then_any ?_)
        | (with_reducible refine then_ret ?_)
        | (with_reducible refine then_exit ?_)
        | (with_reducible refine inBlock_normal ?_)
        | (with_reducible refine inBlock_ret ?_)
        | (with_reducible refine inBlock_hit ?_)
        | (with_reducible refine inBlock_miss (by decide) ?_)
        | (with_reducible refine awp_ret ?_)
        | (with_reducible refine awp_exit ?_)
        | (with_reducible refine post_ret ?_)
        | (with_reducible refine post_normal ?_)
        | (with_reducible refine awp_block ?_)
        | (with_reducible refine v_reg [] (fun K hK => ?_))
        | (with_reducible refine v_reg1 [] (fun K hK => ?_))
        | (with_reducible refine v_draw mixed [] [] (by kernel_rfl) (fun K hK => ?_))
        | (with_reducible refine v_draw1 mixed [] [] (by kernel_rfl) (fun K hK => ?_))
        | (with_reducible refine ev_nil (hK _ _ ?_); clear hK K)
        | (with_reducible refine ed_nil (hK _ _ ?_); clear hK K)
        | ((first | with_reducible refine ev_cons (fun K' hK' => ?_) | with_reducible refine ed_cons (fun K' hK' => ?_) | (with_reducible refine ev_id ?_; refine ev_guard rfl (fun K' hK' => ?_)) | (with_reducible refine ed_id ?_; refine ed_guard rfl (fun K' hK' => ?_))); simp [h1', h2', h3', h4]; repeat' (first | (with_reducible refine hK' _ _ ?_; clear hK' K') | (with_reducible refine Ret.use fixed2_ret ?_; try simp [h1', h2', h3', h4]) | (with_reducible refine Ret.use hma ?_; try simp [h1', h2', h3', h4]) | (with_reducible refine Ret.use hma2 ?_; try simp [h1', h2', h3', h4]) | (with_reducible refine Ret.use hin1 ?_; try simp [h1', h2', h3', h4]) | (with_reducible refine Ret.use hin2 ?_; try simp [h1', h2', h3', h4]) | (with_reducible refine Ret.use hs1 ?_; try simp [h1', h2', h3', h4]) | (with_reducible refine Ret.use hs2 ?_; try simp [h1', h2', h3', h4]) | (with_reducible refine Ret.use hso1 ?_; try simp [h1', h2', h3', h4]) | (with_reducible refine Ret.use hso2 ?_; try simp [h1', h2', h3', h4]) | (with_reducible refine Ret.use all_ret ?_; try simp [h1', h2', h3', h4]) | (with_reducible refine Ret.use all2_ret ?_; try simp [h1', h2', h3', h4]) | (with_reducible refine Ret.use hun ?_; try simp [h1', h2', h3', h4]) | (with_reducible refine Ret.use hu ?_; try simp [h1', h2', h3', h4]) | (with_reducible refine Ret.use hme ?_; try simp [h1', h2', h3', h4]) | (with_reducible refine Ret.use hm ?_; try simp [h1', h2', h3', h4]) | (with_reducible refine Ret.use hmi ?_; try simp [h1', h2', h3', h4]) | (with_reducible refine Ret.use hn ?_; try simp [h1', h2', h3', h4]) | (with_reducible refine Ret.use e1 ?_; try simp [h1', h2', h3', h4]) | (with_reducible refine Ret.use e2 ?_; try simp [h1', h2', h3', h4]) | (with_reducible refine Ret.use e3 ?_; try simp [h1', h2', h3', h4]) | (with_reducible refine Ret.use e4 ?_; try simp [h1', h2', h3', h4]) | (with_reducible refine Ret.use e5 ?_; try simp [h1', h2', h3', h4]) | (with_reducible refine And.intro ?_ ?_) | (with_reducible intro hg) | (clear hK' K'; omega)))
        | (with_reducible refine w_cond (fun A B hA hB => ?_); simp [h1', h2', h3', h4]; repeat' (first | (with_reducible refine hA ?_; clear hA hB A B) | (with_reducible refine hB ?_; clear hA hB A B) | (with_reducible refine And.intro ?_ ?_) | (with_reducible intro hc)))
        | (with_reducible refine awp_seq ?_))
      all_goals simp
end Go.Am
