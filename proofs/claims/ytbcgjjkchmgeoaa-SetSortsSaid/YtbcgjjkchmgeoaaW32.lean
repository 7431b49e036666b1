/- The laws of chapter 02: members, algebra. -/
import Derived.Test.YtbcgjjkchmgeoaaW31
namespace Go.Am
open Go Go.Proofs
set_option linter.unusedVariables false
set_option linter.unusedSimpArgs false
variable {w0 : World}
attribute [local irreducible] AWP ACalls
attribute [local congr] acalls_congr

theorem IsSet.rb {l : List Int} (h : IsSet l) : risesB (-1) l = true := rises_iff.2 h
theorem has_mem {l : List Int} {x : Int} (hl : l.length ≤ 1099511627776) (h : IsSet l) : Ret Try.prog w0 58 [ints l, I x] (B (decide (x ∈ l))) := by simpa [h.rb] using has_ret (w0 := w0) (x := x) hl

theorem dec_union {a b : List Int} {x : Int} (sa : IsSet a) (sb : IsSet b) : decide (x ∈ unionL a b) = (decide (x ∈ a) || decide (x ∈ b)) := by
  rw [Bool.eq_iff_iff]; simp [mem_unionL sa sb]
theorem dec_meet {a b : List Int} {x : Int} (sa : IsSet a) (sb : IsSet b) : decide (x ∈ meetL a b) = (decide (x ∈ a) && decide (x ∈ b)) := by
  rw [Bool.eq_iff_iff]; simp [mem_meetL sa sb]
theorem dec_minus {a b : List Int} {x : Int} (sa : IsSet a) (sb : IsSet b) : decide (x ∈ minusL a b) = (decide (x ∈ a) && !decide (x ∈ b)) := by
  rw [Bool.eq_iff_iff]; simp [mem_minusL sa sb]

set_option maxHeartbeats 4000000 in
theorem setMembers_ret {a b : List Int} {x : Int} (ha : a.length ≤ 17592186044416) (hb : b.length ≤ 17592186044416) : Ret Try.prog w0 20 [ints a, ints b, I x] (B true) := by
  intro H
  refine w_enter Try.func20 rfl Try.ntmps20 (ts := [6]) rfl (by simp) (by kernel_rfl) ?_
  by_cases h1 : a.length ≤ 100
  rotate_left
  · have h1' : (100 : Int) < a.length := by omega
    repeat' (first
      | (with_reducible refine awp_skip ?_)
      | (with_reducible refine then_any ?_)
      | (with_reducible refine then_ret ?_)
      | (with_reducible refine then_exit ?_)
      | (with_reducible refine inBlock_normal ?_)
      | (with_reducible refine inBlock_ret ?_)
      | (with_reducible refine inBlock_hit ?_)
      | (with_reducible refine inBlock_miss (by decide) ?_)
      | (with_reducible refine awp_ret ?_)
      | (with_reducible refine awp_exit ?_)
      | (with_reducible refine post_ret ?_)
      | (with_reducible refine post_normal ?_)
      | (with_reducible refine awp_block ?_)
      | (with_reducible refine v_reg [] (fun K hK => ?_))
      | (with_reducible refine v_reg1 [] (fun K hK => ?_))
      | (with_reducible refine v_draw mixed [] [] (by kernel_rfl) (fun K hK => ?_))
      | (with_reducible refine v_draw1 mixed [] [] (by kernel_rfl) (fun K hK => ?_))
      | (with_reducible refine ev_nil (hK _ _ ?_); clear hK K)
      | (with_reducible refine ed_nil (hK _ _ ?_); clear hK K)
      | ((first | with_reducible refine ev_cons (fun K' hK' => ?_) | with_reducible refine ed_cons (fun K' hK' => ?_) | (with_reducible refine ev_id ?_; refine ev_guard rfl (fun K' hK' => ?_)) | (with_reducible refine ed_id ?_; refine ed_guard rfl (fun K' hK' => ?_))); simp [ints, h1']; repeat' (first | (with_reducible refine hK' _ _ ?_; clear hK' K') | (with_reducible refine Ret.use fixed2_ret ?_; try simp [ints, h1']) | (with_reducible refine And.intro ?_ ?_) | (with_reducible intro hg) | (clear hK' K'; omega)))
      | (with_reducible refine w_cond (fun A B hA hB => ?_); simp [ints, h1']; repeat' (first | (with_reducible refine hA ?_; clear hA hB A B) | (with_reducible refine hB ?_; clear hA hB A B) | (with_reducible refine And.intro ?_ ?_) | (with_reducible intro hc)))
      | (with_reducible refine awp_seq ?_))
    all_goals simp
  by_cases h2 : b.length ≤ 100
  rotate_left
  · have h2' : (100 : Int) < b.length := by omega
    repeat' (first
      | (with_reducible refine awp_skip ?_)
      | (with_reducible refine then_any ?_)
      | (with_reducible refine then_ret ?_)
      | (with_reducible refine then_exit ?_)
      | (with_reducible refine inBlock_normal ?_)
      | (with_reducible refine inBlock_ret ?_)
      | (with_reducible refine inBlock_hit ?_)
      | (with_reducible refine inBlock_miss (by decide) ?_)
      | (with_reducible refine awp_ret ?_)
      | (with_reducible refine awp_exit ?_)
      | (with_reducible refine post_ret ?_)
      | (with_reducible refine post_normal ?_)
      | (with_reducible refine awp_block ?_)
      | (with_reducible refine v_reg [] (fun K hK => ?_))
      | (with_reducible refine v_reg1 [] (fun K hK => ?_))
      | (with_reducible refine v_draw mixed [] [] (by kernel_rfl) (fun K hK => ?_))
      | (with_reducible refine v_draw1 mixed [] [] (by kernel_rfl) (fun K hK => ?_))
      | (with_reducible refine ev_nil (hK _ _ ?_); clear hK K)
      | (with_reducible refine ed_nil (hK _ _ ?_); clear hK K)
      | ((first | with_reducible refine ev_cons (fun K' hK' => ?_) | with_reducible refine ed_cons (fun K' hK' => ?_) | (with_reducible refine ev_id ?_; refine ev_guard rfl (fun K' hK' => ?_)) | (with_reducible refine ed_id ?_; refine ed_guard rfl (fun K' hK' => ?_))); simp [ints, h2']; repeat' (first | (with_reducible refine hK' _ _ ?_; clear hK' K') | (with_reducible refine Ret.use fixed2_ret ?_; try simp [ints, h2']) | (with_reducible refine And.intro ?_ ?_) | (with_reducible intro hg) | (clear hK' K'; omega)))
      | (with_reducible refine w_cond (fun A B hA hB => ?_); simp [ints, h2']; repeat' (first | (with_reducible refine hA ?_; clear hA hB A B) | (with_reducible refine hB ?_; clear hA hB A B) | (with_reducible refine And.intro ?_ ?_) | (with_reducible intro hc)))
      | (with_reducible refine awp_seq ?_))
    all_goals simp
  have h1' : ¬ (100 : Int) < a.length := by omega
  have h2' : ¬ (100 : Int) < b.length := by omega
  have hma := may2_ret (w0 := w0) (l := a) (by omega)
  have hmb := may2_ret (w0 := w0) (l := b) (by omega)
  cases ga : risesB (-1) a with
  | false =>
    rw [ga] at hma
    repeat' (first
      | (with_reducible refine awp_skip ?_)
      | (with_reducible refine then_any ?_)
      | (with_reducible refine then_ret ?_)
      | (with_reducible refine then_exit ?_)
      | (with_reducible refine inBlock_normal ?_)
      | (with_reducible refine inBlock_ret ?_)
      | (with_reducible refine inBlock_hit ?_)
      | (with_reducible refine inBlock_miss (by decide) ?_)
      | (with_reducible refine awp_ret ?_)
      | (with_reducible refine awp_exit ?_)
      | (with_reducible refine post_ret ?_)
      | (with_reducible refine post_normal ?_)
      | (with_reducible refine awp_block ?_)
      | (with_reducible refine v_reg [] (fun K hK => ?_))
      | (with_reducible refine v_reg1 [] (fun K hK => ?_))
      | (with_reducible refine v_draw mixed [] [] (by kernel_rfl) (fun K hK => ?_))
      | (with_reducible refine v_draw1 mixed [] [] (by kernel_rfl) (fun K hK => ?_))
      | (with_reducible refine ev_nil (hK _ _ ?_); clear hK K)
      | (with_reducible refine ed_nil (hK _ _ ?_); clear hK K)
      | ((first | with_reducible refine ev_cons (fun K' hK' => ?_) | with_reducible refine ed_cons (fun K' hK' => ?_) | (with_reducible refine ev_id ?_; refine ev_guard rfl (fun K' hK' => ?_)) | (with_reducible refine ed_id ?_; refine ed_guard rfl (fun K' hK' => ?_))); simp [ints, h1', h2']; repeat' (first | (with_reducible refine hK' _ _ ?_; clear hK' K') | (with_reducible refine Ret.use fixed2_ret ?_; try simp [ints, h1', h2']) | (with_reducible refine Ret.use hma ?_; try simp [ints, h1', h2']) | (with_reducible refine And.intro ?_ ?_) | (with_reducible intro hg) | (clear hK' K'; omega)))
      | (with_reducible refine w_cond (fun A B hA hB => ?_); simp [ints, h1', h2']; repeat' (first | (with_reducible refine hA ?_; clear hA hB A B) | (with_reducible refine hB ?_; clear hA hB A B) | (with_reducible refine And.intro ?_ ?_) | (with_reducible intro hc)))
      | (with_reducible refine awp_seq ?_))
    all_goals simp
  | true =>
  cases gb : risesB (-1) b with
  | false =>
    rw [ga] at hma
    rw [gb] at hmb
    repeat' (first
      | (with_reducible refine awp_skip ?_)
      | (with_reducible refine then_any ?_)
      | (with_reducible refine then_ret ?_)
      | (with_reducible refine then_exit ?_)
      | (with_reducible refine inBlock_normal ?_)
      | (with_reducible refine inBlock_ret ?_)
      | (with_reducible refine inBlock_hit ?_)
      | (with_reducible refine inBlock_miss (by decide) ?_)
      | (with_reducible refine awp_ret ?_)
      | (with_reducible refine awp_exit ?_)
      | (with_reducible refine post_ret ?_)
      | (with_reducible refine post_normal ?_)
      | (with_reducible refine awp_block ?_)
      | (with_reducible refine v_reg [] (fun K hK => ?_))
      | (with_reducible refine v_reg1 [] (fun K hK => ?_))
      | (with_reducible refine v_draw mixed [] [] (by kernel_rfl) (fun K hK => ?_))
      | (with_reducible refine v_draw1 mixed [] [] (by kernel_rfl) (fun K hK => ?_))
      | (with_reducible refine ev_nil (hK _ _ ?_); clear hK K)
      | (with_reducible refine ed_nil (hK _ _ ?_); clear hK K)
      | ((first | with_reducible refine ev_cons (fun K' hK' => ?_) | with_reducible refine ed_cons (fun K' hK' => ?_) | (with_reducible refine ev_id ?_; refine ev_guard rfl (fun K' hK' => ?_)) | (with_reducible refine ed_id ?_; refine ed_guard rfl (fun K' hK' => ?_))); simp [ints, h1', h2']; repeat' (first | (with_reducible refine hK' _ _ ?_; clear hK' K') | (with_reducible refine Ret.use fixed2_ret ?_; try simp [ints, h1', h2']) | (with_reducible refine Ret.use hma ?_; try simp [ints, h1', h2']) | (with_reducible refine Ret.use hmb ?_; try simp [ints, h1', h2']) | (with_reducible refine And.intro ?_ ?_) | (with_reducible intro hg) | (clear hK' K'; omega)))
      | (with_reducible refine w_cond (fun A B hA hB => ?_); simp [ints, h1', h2']; repeat' (first | (with_reducible refine hA ?_; clear hA hB A B) | (with_reducible refine hB ?_; clear hA hB A B) | (with_reducible refine And.intro ?_ ?_) | (with_reducible intro hc)))
      | (with_reducible refine awp_seq ?_))
    all_goals simp
  | true =>
  rw [ga] at hma
  rw [gb] at hmb
  have sa := rises_iff.1 ga
  have sb := rises_iff.1 gb
  have hu1 := unionL_length a b
  have hm1 := meetL_length a b
  have hn1 := minusL_length a b
  have hu := has_mem (w0 := w0) (x := x) (l := unionL a b) (by omega) (sa.union sb)
  have hm := has_mem (w0 := w0) (x := x) (l := meetL a b) (by omega) (sa.meet sb)
  have hn := has_mem (w0 := w0) (x := x) (l := minusL a b) (by omega) (sa.minus sb)
  rw [dec_union sa sb] at hu
  rw [dec_meet sa sb] at hm
  rw [dec_minus sa sb] at hn
  have hha := has_mem (w0 := w0) (x := x) (l := a) (by omega) sa
  have hhb := has_mem (w0 := w0) (x := x) (l := b) (by omega) sb
  have hun := union_ret (w0 := w0) (a := a) (b := b) (by omega) (by omega)
  have hme := meet_ret (w0 := w0) (a := a) (b := b) (by omega) (by omega)
  have hmi := minus_ret (w0 := w0) (a := a) (b := b) (by omega) (by omega)
  have hx : meetL [x] a = if x ∈ a ∧ 0 ≤ x ∧ x ≤ 1099511627776 then [x] else [] := by
    by_cases hr : 0 ≤ x ∧ x ≤ 1099511627776
    · have s1 : IsSet [x] := .one hr
      rw [meetL_eq s1 sa]
      by_cases hxa : x ∈ a <;> simp [hxa, hr]
    · have : risesB (-1) [x] = false := by
        cases h : risesB (-1) [x] with
        | false => rfl
        | true => exact absurd ((rises_iff.1 h).ok x (by simp)) hr
      simp only [meetL, this, hr, and_false, if_false]
      simp
  have hxr : x ∈ a → 0 ≤ x ∧ x ≤ 1099511627776 := sa.ok x
  have hsu := sub_ret (w0 := w0) (a := [x]) (b := a) (by simp) (by omega)
  have hsx : (risesB (-1) [x] && risesB (-1) a && decide ((meetL [x] a).length = ([x] : List Int).length)) = decide (x ∈ a) := by
    rw [hx, ga]
    by_cases hxa : x ∈ a
    · have := hxr hxa
      have h1 : risesB (-1) [x] = true := (IsSet.one this).rb
      simp [hxa, this, h1]
    · simp [hxa]
  rw [hsx] at hsu
  simp only [ints, List.map_cons, List.map_nil, List.length_cons, List.length_nil] at hma hmb hu hm hn hha hhb hun hme hmi hsu
  clear hsx hx hxr
  cases hxa : decide (x ∈ a) <;> cases hxb : decide (x ∈ b) <;> rw [hxa] at hu hm hn hha hsu <;> rw [hxb] at hu hm hn hhb <;> simp only [Bool.or_false, Bool.or_true, Bool.true_or, Bool.false_or, Bool.and_true, Bool.and_false, Bool.true_and, Bool.false_and, Bool.not_true, Bool.not_false] at hu hm hn
  · repeat' (first
      | (with_reducible refine awp_skip ?_)
      | (with_reducible refine then_any ?_)
      | (with_reducible refine then_ret ?_)
      | (with_reducible refine then_exit ?_)
      | (with_reducible refine inBlock_normal ?_)
      | (with_reducible refine inBlock_ret ?_)
      | (with_reducible refine inBlock_hit ?_)
      | (with_reducible refine inBlock_miss (by decide) ?_)
      | (with_reducible refine awp_ret ?_)
      | (with_reducible refine awp_exit ?_)
      | (with_reducible refine post_ret ?_)
      | (with_reducible refine post_normal ?_)
      | (with_reducible refine awp_block ?_)
      | (with_reducible refine v_reg [] (fun K hK => ?_))
      | (with_reducible refine v_reg1 [] (fun K hK => ?_))
      | (with_reducible refine v_draw mixed [] [] (by kernel_rfl) (fun K hK => ?_))
      | (with_reducible refine v_draw1 mixed [] [] (by kernel_rfl) (fun K hK => ?_))
      | (with_reducible refine ev_nil (hK _ _ ?_); clear hK K)
      | (with_reducible refine ed_nil (hK _ _ ?_); clear hK K)
      | ((first | with_reducible refine ev_cons (fun K' hK' => ?_) | with_reducible refine ed_cons (fun K' hK' => ?_) | (with_reducible refine ev_id ?_; refine ev_guard rfl (fun K' hK' => ?_)) | (with_reducible refine ed_id ?_; refine ed_guard rfl (fun K' hK' => ?_))); simp [ints, h1', h2']; repeat' (first | (with_reducible refine hK' _ _ ?_; clear hK' K') | (with_reducible refine Ret.use fixed2_ret ?_; try simp [ints, h1', h2']) | (with_reducible refine Ret.use hma ?_; try simp [ints, h1', h2']) | (with_reducible refine Ret.use hmb ?_; try simp [ints, h1', h2']) | (with_reducible refine Ret.use hu ?_; try simp [ints, h1', h2']) | (with_reducible refine Ret.use hm ?_; try simp [ints, h1', h2']) | (with_reducible refine Ret.use hn ?_; try simp [ints, h1', h2']) | (with_reducible refine Ret.use hha ?_; try simp [ints, h1', h2']) | (with_reducible refine Ret.use hhb ?_; try simp [ints, h1', h2']) | (with_reducible refine Ret.use hun ?_; try simp [ints, h1', h2']) | (with_reducible refine Ret.use hme ?_; try simp [ints, h1', h2']) | (with_reducible refine Ret.use hmi ?_; try simp [ints, h1', h2']) | (with_reducible refine Ret.use hsu ?_; try simp [ints, h1', h2']) | (with_reducible refine And.intro ?_ ?_) | (with_reducible intro hg) | (clear hK' K'; omega)))
      | (with_reducible refine w_cond (fun A B hA hB => ?_); simp [ints, h1', h2']; repeat' (first | (with_reducible refine hA ?_; clear hA hB A B) | (with_reducible refine hB ?_; clear hA hB A B) | (with_reducible refine And.intro ?_ ?_) | (with_reducible intro hc)))
      | (with_reducible refine awp_seq ?_))
    all_goals simp
  · repeat' (first
      | (with_reducible refine awp_skip ?_)
      | (with_reducible refine then_any ?_)
      | (with_reducible refine then_ret ?_)
      | (with_reducible refine then_exit ?_)
      | (with_reducible refine inBlock_normal ?_)
      | (with_reducible refine inBlock_ret ?_)
      | (with_reducible refine inBlock_hit ?_)
      | (with_reducible refine inBlock_miss (by decide) ?_)
      | (with_reducible refine awp_ret ?_)
      | (with_reducible refine awp_exit ?_)
      | (with_reducible refine post_ret ?_)
      | (with_reducible refine post_normal ?_)
      | (with_reducible refine awp_block ?_)
      | (with_reducible refine v_reg [] (fun K hK => ?_))
      | (with_reducible refine v_reg1 [] (fun K hK => ?_))
      | (with_reducible refine v_draw mixed [] [] (by kernel_rfl) (fun K hK => ?_))
      | (with_reducible refine v_draw1 mixed [] [] (by kernel_rfl) (fun K hK => ?_))
      | (with_reducible refine ev_nil (hK _ _ ?_); clear hK K)
      | (with_reducible refine ed_nil (hK _ _ ?_); clear hK K)
      | ((first | with_reducible refine ev_cons (fun K' hK' => ?_) | with_reducible refine ed_cons (fun K' hK' => ?_) | (with_reducible refine ev_id ?_; refine ev_guard rfl (fun K' hK' => ?_)) | (with_reducible refine ed_id ?_; refine ed_guard rfl (fun K' hK' => ?_))); simp [ints, h1', h2']; repeat' (first | (with_reducible refine hK' _ _ ?_; clear hK' K') | (with_reducible refine Ret.use fixed2_ret ?_; try simp [ints, h1', h2']) | (with_reducible refine Ret.use hma ?_; try simp [ints, h1', h2']) | (with_reducible refine Ret.use hmb ?_; try simp [ints, h1', h2']) | (with_reducible refine Ret.use hu ?_; try simp [ints, h1', h2']) | (with_reducible refine Ret.use hm ?_; try simp [ints, h1', h2']) | (with_reducible refine Ret.use hn ?_; try simp [ints, h1', h2']) | (with_reducible refine Ret.use hha ?_; try simp [ints, h1', h2']) | (with_reducible refine Ret.use hhb ?_; try simp [ints, h1', h2']) | (with_reducible refine Ret.use hun ?_; try simp [ints, h1', h2']) | (with_reducible refine Ret.use hme ?_; try simp [ints, h1', h2']) | (with_reducible refine Ret.use hmi ?_; try simp [ints, h1', h2']) | (with_reducible refine Ret.use hsu ?_; try simp [ints, h1', h2']) | (with_reducible refine And.intro ?_ ?_) | (with_reducible intro hg) | (clear hK' K'; omega)))
      | (with_reducible refine w_cond (fun A B hA hB => ?_); simp [ints, h1', h2']; repeat' (first | (with_reducible refine hA ?_; clear hA hB A B) | (with_reducible refine hB ?_; clear hA hB A B) | (with_reducible refine And.intro ?_ ?_) | (with_reducible intro hc)))
      | (with_reducible refine awp_seq ?_))
    all_goals simp
  · repeat' (first
      | (with_reducible refine awp_skip ?_)
      | (with_reducible refine then_any ?_)
      | (with_reducible refine then_ret ?_)
      | (with_reducible refine then_exit ?_)
      | (with_reducible refine inBlock_normal ?_)
      | (with_reducible refine inBlock_ret ?_)
      | (with_reducible refine inBlock_hit ?_)
      | (with_reducible refine inBlock_miss (by decide) ?_)
      | (with_reducible refine awp_ret ?_)
      | (with_reducible refine awp_exit ?_)
      | (with_reducible refine post_ret ?_)
      | (with_reducible refine post_normal ?_)
      | (with_reducible refine awp_block ?_)
      | (with_reducible refine v_reg [] (fun K hK => ?_))
      | (with_reducible refine v_reg1 [] (fun K hK => ?_))
      | (with_reducible refine v_draw mixed [] [] (by kernel_rfl) (fun K hK => ?_))
      | (with_reducible refine v_draw1 mixed [] [] (by kernel_rfl) (fun K hK => ?_))
      | (with_reducible refine ev_nil (hK _ _ ?_); clear hK K)
      | (with_reducible refine ed_nil (hK _ _ ?_); clear hK K)
      | ((first | with_reducible refine ev_cons (fun K' hK' => ?_) | with_reducible refine ed_cons (fun K' hK' => ?_) | (with_reducible refine ev_id ?_; refine ev_guard rfl (fun K' hK' => ?_)) | (with_reducible refine ed_id ?_; refine ed_guard rfl (fun K' hK' => ?_))); simp [ints, h1', h2']; repeat' (first | (with_reducible refine hK' _ _ ?_; clear hK' K') | (with_reducible refine Ret.use fixed2_ret ?_; try simp [ints, h1', h2']) | (with_reducible refine Ret.use hma ?_; try simp [ints, h1', h2']) | (with_reducible refine Ret.use hmb ?_; try simp [ints, h1', h2']) | (with_reducible refine Ret.use hu ?_; try simp [ints, h1', h2']) | (with_reducible refine Ret.use hm ?_; try simp [ints, h1', h2']) | (with_reducible refine Ret.use hn ?_; try simp [ints, h1', h2']) | (with_reducible refine Ret.use hha ?_; try simp [ints, h1', h2']) | (with_reducible refine Ret.use hhb ?_; try simp [ints, h1', h2']) | (with_reducible refine Ret.use hun ?_; try simp [ints, h1', h2']) | (with_reducible refine Ret.use hme ?_; try simp [ints, h1', h2']) | (with_reducible refine Ret.use hmi ?_; try simp [ints, h1', h2']) | (with_reducible refine Ret.use hsu ?_; try simp [ints, h1', h2']) | (with_reducible refine And.intro ?_ ?_) | (with_reducible intro hg) | (clear hK' K'; omega)))
      | (with_reducible refine w_cond (fun A B hA hB => ?_); simp [ints, h1', h2']; repeat' (first | (with_reducible refine hA ?_; clear hA hB A B) | (with_reducible refine hB ?_; clear hA hB A B) | (with_reducible refine And.intro ?_ ?_) | (with_reducible intro hc)))
      | (with_reducible refine awp_seq ?_))
    all_goals simp
  · repeat' (first
      | (with_reducible refine awp_skip ?_)
      | (with_reducible refine then_any ?_)
      | (with_reducible refine then_ret ?_)
      | (with_reducible refine then_exit ?_)
      | (with_reducible refine inBlock_normal ?_)
      | (with_reducible refine inBlock_ret ?_)
      | (with_reducible refine inBlock_hit ?_)
      | (with_reducible refine inBlock_miss (by decide) ?_)
      | (with_reducible refine awp_ret ?_)
      | (with_reducible refine awp_exit ?_)
      | (with_reducible refine post_ret ?_)
      | (with_reducible refine post_normal ?_)
      | (with_reducible refine awp_block ?_)
      | (with_reducible refine v_reg [] (fun K hK => ?_))
      | (with_reducible refine v_reg1 [] (fun K hK => ?_))
      | (with_reducible refine v_draw mixed [] [] (by kernel_rfl) (fun K hK => ?_))
      | (with_reducible refine v_draw1 mixed [] [] (by kernel_rfl) (fun K hK => ?_))
      | (with_reducible refine ev_nil (hK _ _ ?_); clear hK K)
      | (with_reducible refine ed_nil (hK _ _ ?_); clear hK K)
      | ((first | with_reducible refine ev_cons (fun K' hK' => ?_) | with_reducible refine ed_cons (fun K' hK' => ?_) | (with_reducible refine ev_id ?_; refine ev_guard rfl (fun K' hK' => ?_)) | (with_reducible refine ed_id ?_; refine ed_guard rfl (fun K' hK' => ?_))); simp [ints, h1', h2']; repeat' (first | (with_reducible refine hK' _ _ ?_; clear hK' K') | (with_reducible refine Ret.use fixed2_ret ?_; try simp [ints, h1', h2']) | (with_reducible refine Ret.use hma ?_; try simp [ints, h1', h2']) | (with_reducible refine Ret.use hmb ?_; try simp [ints, h1', h2']) | (with_reducible refine Ret.use hu ?_; try simp [ints, h1', h2']) | (with_reducible refine Ret.use hm ?_; try simp [ints, h1', h2']) | (with_reducible refine Ret.use hn ?_; try simp [ints, h1', h2']) | (with_reducible refine Ret.use hha ?_; try simp [ints, h1', h2']) | (with_reducible refine Ret.use hhb ?_; try simp [ints, h1', h2']) | (with_reducible refine Ret.use hun ?_; try simp [ints, h1', h2']) | (with_reducible refine Ret.use hme ?_; try simp [ints, h1', h2']) | (with_reducible refine Ret.use hmi ?_; try simp [ints, h1', h2']) | (with_reducible refine Ret.use hsu ?_; try simp [ints, h1', h2']) | (with_reducible refine And.intro ?_ ?_) | (with_reducible intro hg) | (clear hK' K'; omega)))
      | (with_reducible refine w_cond (fun A B hA hB => ?_); simp [ints, h1', h2']; repeat' (first | (with_reducible refine hA ?_; clear hA hB A B) | (with_reducible refine hB ?_; clear hA hB A B) | (with_reducible refine And.intro ?_ ?_) | (with_reducible intro hc)))
      | (with_reducible refine awp_seq ?_))
    all_goals simp
#print axioms setMembers_ret

theorem subT {a b : List Int} (ha : a.length ≤ 1099511627776) (hb : b.length ≤ 1099511627776) (sa : IsSet a) (sb : IsSet b) (h : meetL a b = a) : Ret Try.prog w0 59 [ints a, ints b] (B true) := by
  simpa [sa.rb, sb.rb, h] using sub_ret (w0 := w0) ha hb

set_option maxRecDepth 8000 in
set_option maxHeartbeats 4000000 in
theorem setAlgebra_ret {a b c : List Int} (ha : a.length ≤ 17592186044416) (hb : b.length ≤ 17592186044416) (hc : c.length ≤ 17592186044416) : Ret Try.prog w0 19 [ints a, ints b, ints c] (B true) := by
  intro H
  refine w_enter Try.func19 rfl Try.ntmps19 (ts := [6]) rfl (by simp) (by kernel_rfl) ?_
  by_cases h1 : a.length ≤ 100
  rotate_left
  · have h1' : (100 : Int) < a.length := by omega
    repeat' (first
      | (with_reducible refine awp_skip ?_)
      | (with_reducible refine then_any ?_)
      | (with_reducible refine then_ret ?_)
      | (with_reducible refine then_exit ?_)
      | (with_reducible refine inBlock_normal ?_)
      | (with_reducible refine inBlock_ret ?_)
      | (with_reducible refine inBlock_hit ?_)
      | (with_reducible refine inBlock_miss (by decide) ?_)
      | (with_reducible refine awp_ret ?_)
      | (with_reducible refine awp_exit ?_)
      | (with_reducible refine post_ret ?_)
      | (with_reducible refine post_normal ?_)
      | (with_reducible refine awp_block ?_)
      | (with_reducible refine v_reg [] (fun K hK => ?_))
      | (with_reducible refine v_reg1 [] (fun K hK => ?_))
      | (with_reducible refine v_draw mixed [] [] (by kernel_rfl) (fun K hK => ?_))
      | (with_reducible refine v_draw1 mixed [] [] (by kernel_rfl) (fun K hK => ?_))
      | (with_reducible refine ev_nil (hK _ _ ?_); clear hK K)
      | (with_reducible refine ed_nil (hK _ _ ?_); clear hK K)
      | ((first | with_reducible refine ev_cons (fun K' hK' => ?_) | with_reducible refine ed_cons (fun K' hK' => ?_) | (with_reducible refine ev_id ?_; refine ev_guard rfl (fun K' hK' => ?_)) | (with_reducible refine ed_id ?_; refine ed_guard rfl (fun K' hK' => ?_))); simp [ints, h1']; repeat' (first | (with_reducible refine hK' _ _ ?_; clear hK' K') | (with_reducible refine Ret.use fixed2_ret ?_; try simp [ints, h1']) | (with_reducible refine And.intro ?_ ?_) | (with_reducible intro hg) | (clear hK' K'; omega)))
      | (with_reducible refine w_cond (fun A B hA hB => ?_); simp [ints, h1']; repeat' (first | (with_reducible refine hA ?_; clear hA hB A B) | (with_reducible refine hB ?_; clear hA hB A B) | (with_reducible refine And.intro ?_ ?_) | (with_reducible intro hc)))
      | (with_reducible refine awp_seq ?_))
    all_goals simp
  by_cases h2 : b.length ≤ 100
  rotate_left
  · have h2' : (100 : Int) < b.length := by omega
    repeat' (first
      | (with_reducible refine awp_skip ?_)
      | (with_reducible refine then_any ?_)
      | (with_reducible refine then_ret ?_)
      | (with_reducible refine then_exit ?_)
      | (with_reducible refine inBlock_normal ?_)
      | (with_reducible refine inBlock_ret ?_)
      | (with_reducible refine inBlock_hit ?_)
      | (with_reducible refine inBlock_miss (by decide) ?_)
      | (with_reducible refine awp_ret ?_)
      | (with_reducible refine awp_exit ?_)
      | (with_reducible refine post_ret ?_)
      | (with_reducible refine post_normal ?_)
      | (with_reducible refine awp_block ?_)
      | (with_reducible refine v_reg [] (fun K hK => ?_))
      | (with_reducible refine v_reg1 [] (fun K hK => ?_))
      | (with_reducible refine v_draw mixed [] [] (by kernel_rfl) (fun K hK => ?_))
      | (with_reducible refine v_draw1 mixed [] [] (by kernel_rfl) (fun K hK => ?_))
      | (with_reducible refine ev_nil (hK _ _ ?_); clear hK K)
      | (with_reducible refine ed_nil (hK _ _ ?_); clear hK K)
      | ((first | with_reducible refine ev_cons (fun K' hK' => ?_) | with_reducible refine ed_cons (fun K' hK' => ?_) | (with_reducible refine ev_id ?_; refine ev_guard rfl (fun K' hK' => ?_)) | (with_reducible refine ed_id ?_; refine ed_guard rfl (fun K' hK' => ?_))); simp [ints, h2']; repeat' (first | (with_reducible refine hK' _ _ ?_; clear hK' K') | (with_reducible refine Ret.use fixed2_ret ?_; try simp [ints, h2']) | (with_reducible refine And.intro ?_ ?_) | (with_reducible intro hg) | (clear hK' K'; omega)))
      | (with_reducible refine w_cond (fun A B hA hB => ?_); simp [ints, h2']; repeat' (first | (with_reducible refine hA ?_; clear hA hB A B) | (with_reducible refine hB ?_; clear hA hB A B) | (with_reducible refine And.intro ?_ ?_) | (with_reducible intro hc)))
      | (with_reducible refine awp_seq ?_))
    all_goals simp
  by_cases h3 : c.length ≤ 100
  rotate_left
  · have h3' : (100 : Int) < c.length := by omega
    repeat' (first
      | (with_reducible refine awp_skip ?_)
      | (with_reducible refine then_any ?_)
      | (with_reducible refine then_ret ?_)
      | (with_reducible refine then_exit ?_)
      | (with_reducible refine inBlock_normal ?_)
      | (with_reducible refine inBlock_ret ?_)
      | (with_reducible refine inBlock_hit ?_)
      | (with_reducible refine inBlock_miss (by decide) ?_)
      | (with_reducible refine awp_ret ?_)
      | (with_reducible refine awp_exit ?_)
      | (with_reducible refine post_ret ?_)
      | (with_reducible refine post_normal ?_)
      | (with_reducible refine awp_block ?_)
      | (with_reducible refine v_reg [] (fun K hK => ?_))
      | (with_reducible refine v_reg1 [] (fun K hK => ?_))
      | (with_reducible refine v_draw mixed [] [] (by kernel_rfl) (fun K hK => ?_))
      | (with_reducible refine v_draw1 mixed [] [] (by kernel_rfl) (fun K hK => ?_))
      | (with_reducible refine ev_nil (hK _ _ ?_); clear hK K)
      | (with_reducible refine ed_nil (hK _ _ ?_); clear hK K)
      | ((first | with_reducible refine ev_cons (fun K' hK' => ?_) | with_reducible refine ed_cons (fun K' hK' => ?_) | (with_reducible refine ev_id ?_; refine ev_guard rfl (fun K' hK' => ?_)) | (with_reducible refine ed_id ?_; refine ed_guard rfl (fun K' hK' => ?_))); simp [ints, h3']; repeat' (first | (with_reducible refine hK' _ _ ?_; clear hK' K') | (with_reducible refine Ret.use fixed2_ret ?_; try simp [ints, h3']) | (with_reducible refine And.intro ?_ ?_) | (with_reducible intro hg) | (clear hK' K'; omega)))
      | (with_reducible refine w_cond (fun A B hA hB => ?_); simp [ints, h3']; repeat' (first | (with_reducible refine hA ?_; clear hA hB A B) | (with_reducible refine hB ?_; clear hA hB A B) | (with_reducible refine And.intro ?_ ?_) | (with_reducible intro hc)))
      | (with_reducible refine awp_seq ?_))
    all_goals simp
  have h1' : ¬ (100 : Int) < a.length := by omega
  have h2' : ¬ (100 : Int) < b.length := by omega
  have h3' : ¬ (100 : Int) < c.length := by omega
  have hma := may2_ret (w0 := w0) (l := a) (by omega)
  have hmb := may2_ret (w0 := w0) (l := b) (by omega)
  have hmc := may2_ret (w0 := w0) (l := c) (by omega)
  cases ga : risesB (-1) a with
  | false =>
    rw [ga] at hma
    repeat' (first
      | (with_reducible refine awp_skip ?_)
      | (with_reducible refine then_any ?_)
      | (with_reducible refine then_ret ?_)
      | (with_reducible refine then_exit ?_)
      | (with_reducible refine inBlock_normal ?_)
      | (with_reducible refine inBlock_ret ?_)
      | (with_reducible refine inBlock_hit ?_)
      | (with_reducible refine inBlock_miss (by decide) ?_)
      | (with_reducible refine awp_ret ?_)
      | (with_reducible refine awp_exit ?_)
      | (with_reducible refine post_ret ?_)
      | (with_reducible refine post_normal ?_)
      | (with_reducible refine awp_block ?_)
      | (with_reducible refine v_reg [] (fun K hK => ?_))
      | (with_reducible refine v_reg1 [] (fun K hK => ?_))
      | (with_reducible refine v_draw mixed [] [] (by kernel_rfl) (fun K hK => ?_))
      | (with_reducible refine v_draw1 mixed [] [] (by kernel_rfl) (fun K hK => ?_))
      | (with_reducible refine ev_nil (hK _ _ ?_); clear hK K)
      | (with_reducible refine ed_nil (hK _ _ ?_); clear hK K)
      | ((first | with_reducible refine ev_cons (fun K' hK' => ?_) | with_reducible refine ed_cons (fun K' hK' => ?_) | (with_reducible refine ev_id ?_; refine ev_guard rfl (fun K' hK' => ?_)) | (with_reducible refine ed_id ?_; refine ed_guard rfl (fun K' hK' => ?_))); simp [ints, h1', h2', h3']; repeat' (first | (with_reducible refine hK' _ _ ?_; clear hK' K') | (with_reducible refine Ret.use fixed2_ret ?_; try simp [ints, h1', h2', h3']) | (with_reducible refine Ret.use hma ?_; try simp [ints, h1', h2', h3']) | (with_reducible refine And.intro ?_ ?_) | (with_reducible intro hg) | (clear hK' K'; omega)))
      | (with_reducible refine w_cond (fun A B hA hB => ?_); simp [ints, h1', h2', h3']; repeat' (first | (with_reducible refine hA ?_; clear hA hB A B) | (with_reducible refine hB ?_; clear hA hB A B) | (with_reducible refine And.intro ?_ ?_) | (with_reducible intro hc)))
      | (with_reducible refine awp_seq ?_))
    all_goals simp
  | true =>
  cases gb : risesB (-1) b with
  | false =>
    rw [ga] at hma
    rw [gb] at hmb
    repeat' (first
      | (with_reducible refine awp_skip ?_)
      | (with_reducible refine then_any ?_)
      | (with_reducible refine then_ret ?_)
      | (with_reducible refine then_exit ?_)
      | (with_reducible refine inBlock_normal ?_)
      | (with_reducible refine inBlock_ret ?_)
      | (with_reducible refine inBlock_hit ?_)
      | (with_reducible refine inBlock_miss (by decide) ?_)
      | (with_reducible refine awp_ret ?_)
      | (with_reducible refine awp_exit ?_)
      | (with_reducible refine post_ret ?_)
      | (with_reducible refine post_normal ?_)
      | (with_reducible refine awp_block ?_)
      | (with_reducible refine v_reg [] (fun K hK => ?_))
      | (with_reducible refine v_reg1 [] (fun K hK => ?_))
      | (with_reducible refine v_draw mixed [] [] (by kernel_rfl) (fun K hK => ?_))
      | (with_reducible refine v_draw1 mixed [] [] (by kernel_rfl) (fun K hK => ?_))
      | (with_reducible refine ev_nil (hK _ _ ?_); clear hK K)
      | (with_reducible refine ed_nil (hK _ _ ?_); clear hK K)
      | ((first | with_reducible refine ev_cons (fun K' hK' => ?_) | with_reducible refine ed_cons (fun K' hK' => ?_) | (with_reducible refine ev_id ?_; refine ev_guard rfl (fun K' hK' => ?_)) | (with_reducible refine ed_id ?_; refine ed_guard rfl (fun K' hK' => ?_))); simp [ints, h1', h2', h3']; repeat' (first | (with_reducible refine hK' _ _ ?_; clear hK' K') | (with_reducible refine Ret.use fixed2_ret ?_; try simp [ints, h1', h2', h3']) | (with_reducible refine Ret.use hma ?_; try simp [ints, h1', h2', h3']) | (with_reducible refine Ret.use hmb ?_; try simp [ints, h1', h2', h3']) | (with_reducible refine And.intro ?_ ?_) | (with_reducible intro hg) | (clear hK' K'; omega)))
      | (with_reducible refine w_cond (fun A B hA hB => ?_); simp [ints, h1', h2', h3']; repeat' (first | (with_reducible refine hA ?_; clear hA hB A B) | (with_reducible refine hB ?_; clear hA hB A B) | (with_reducible refine And.intro ?_ ?_) | (with_reducible intro hc)))
      | (with_reducible refine awp_seq ?_))
    all_goals simp
  | true =>
  cases gc : risesB (-1) c with
  | false =>
    rw [ga] at hma
    rw [gb] at hmb
    rw [gc] at hmc
    repeat' (first
      | (with_reducible refine awp_skip ?_)
      | (with_reducible refine then_any ?_)
      | (with_reducible refine then_ret ?_)
      | (with_reducible refine then_exit ?_)
      | (with_reducible refine inBlock_normal ?_)
      | (with_reducible refine inBlock_ret ?_)
      | (with_reducible refine inBlock_hit ?_)
      | (with_reducible refine inBlock_miss (by decide) ?_)
      | (with_reducible refine awp_ret ?_)
      | (with_reducible refine awp_exit ?_)
      | (with_reducible refine post_ret ?_)
      | (with_reducible refine post_normal ?_)
      | (with_reducible refine awp_block ?_)
      | (with_reducible refine v_reg [] (fun K hK => ?_))
      | (with_reducible refine v_reg1 [] (fun K hK => ?_))
      | (with_reducible refine v_draw mixed [] [] (by kernel_rfl) (fun K hK => ?_))
      | (with_reducible refine v_draw1 mixed [] [] (by kernel_rfl) (fun K hK => ?_))
      | (with_reducible refine ev_nil (hK _ _ ?_); clear hK K)
      | (with_reducible refine ed_nil (hK _ _ ?_); clear hK K)
      | ((first | with_reducible refine ev_cons (fun K' hK' => ?_) | with_reducible refine ed_cons (fun K' hK' => ?_) | (with_reducible refine ev_id ?_; refine ev_guard rfl (fun K' hK' => ?_)) | (with_reducible refine ed_id ?_; refine ed_guard rfl (fun K' hK' => ?_))); simp [ints, h1', h2', h3']; repeat' (first | (with_reducible refine hK' _ _ ?_; clear hK' K') | (with_reducible refine Ret.use fixed2_ret ?_; try simp [ints, h1', h2', h3']) | (with_reducible refine Ret.use hma ?_; try simp [ints, h1', h2', h3']) | (with_reducible refine Ret.use hmb ?_; try simp [ints, h1', h2', h3']) | (with_reducible refine Ret.use hmc ?_; try simp [ints, h1', h2', h3']) | (with_reducible refine And.intro ?_ ?_) | (with_reducible intro hg) | (clear hK' K'; omega)))
      | (with_reducible refine w_cond (fun A B hA hB => ?_); simp [ints, h1', h2', h3']; repeat' (first | (with_reducible refine hA ?_; clear hA hB A B) | (with_reducible refine hB ?_; clear hA hB A B) | (with_reducible refine And.intro ?_ ?_) | (with_reducible intro hc)))
      | (with_reducible refine awp_seq ?_))
    all_goals simp
  | true =>
  rw [ga] at hma
  rw [gb] at hmb
  rw [gc] at hmc
  have sa := rises_iff.1 ga
  have sb := rises_iff.1 gb
  have sc := rises_iff.1 gc
  have l1 := union_len_le sa sb
  have l2 := meet_len_le sa sb
  have l3 := minus_len_le sa sb
  have l4 := union_len_le sb sc
  have l5 := meet_len_le sb sc
  have l6 := minus_len_le sb sc
  have l7 := meet_len_le sa sc
  have l8 := minus_len_le sa sc
  have l9 := union_len_le sa (sb.union sc)
  have l10 := meet_len_le sa (sb.meet sc)
  have l11 := union_len_le (sa.meet sc) (sb.meet sc)
  have l12 := union_len_le (sa.minus sc) (sb.minus sc)
  have c1 := union_ret (w0 := w0) (a := a) (b := b) (by omega) (by omega)
  have c2 := meet_ret (w0 := w0) (a := a) (b := b) (by omega) (by omega)
  have c3 := union_ret (w0 := w0) (a := b) (b := a) (by omega) (by omega)
  have c4 := meet_ret (w0 := w0) (a := b) (b := a) (by omega) (by omega)
  have c5 := union_ret (w0 := w0) (a := unionL a b) (b := c) (by omega) (by omega)
  have c6 := union_ret (w0 := w0) (a := b) (b := c) (by omega) (by omega)
  have c7 := union_ret (w0 := w0) (a := a) (b := unionL b c) (by omega) (by omega)
  have c8 := meet_ret (w0 := w0) (a := meetL a b) (b := c) (by omega) (by omega)
  have c9 := meet_ret (w0 := w0) (a := b) (b := c) (by omega) (by omega)
  have c10 := meet_ret (w0 := w0) (a := a) (b := meetL b c) (by omega) (by omega)
  have c11 := meet_ret (w0 := w0) (a := unionL a b) (b := c) (by omega) (by omega)
  have c12 := meet_ret (w0 := w0) (a := a) (b := c) (by omega) (by omega)
  have c13 := union_ret (w0 := w0) (a := meetL a c) (b := meetL b c) (by omega) (by omega)
  have c14 := minus_ret (w0 := w0) (a := unionL a b) (b := c) (by omega) (by omega)
  have c15 := minus_ret (w0 := w0) (a := a) (b := c) (by omega) (by omega)
  have c16 := minus_ret (w0 := w0) (a := b) (b := c) (by omega) (by omega)
  have c17 := union_ret (w0 := w0) (a := minusL a c) (b := minusL b c) (by omega) (by omega)
  have c18 := minus_ret (w0 := w0) (a := a) (b := b) (by omega) (by omega)
  have c19 := union_ret (w0 := w0) (a := minusL a b) (b := meetL a b) (by omega) (by omega)
  rw [union_comm' sa sb] at c3
  rw [meet_comm' sa sb] at c4
  rw [union_assoc' sa sb sc] at c5
  rw [meet_assoc' sa sb sc] at c8
  rw [meet_union' sa sb sc] at c11
  rw [minus_union' sa sb sc] at c14
  rw [cut_union' sa sb] at c19
  have b1 := subT (w0 := w0) (by omega) (by omega) (sa.meet sb) sa (meet_sub' sa sb)
  have b2 := subT (w0 := w0) (by omega) (by omega) sa (sa.union sb) (sub_union' sa sb)
  have b3 := may_ret (w0 := w0) (l := unionL a b) (by omega)
  rw [(sa.union sb).rb] at b3
  have len : ((unionL a b).length : Int) + (meetL a b).length = a.length + b.length := by
    have := len_union' sa sb
    have := len_meet' sa sb
    omega
  have e1 := self_ret (w0 := w0) (a := unionL a b) (by omega)
  have e2 := self_ret (w0 := w0) (a := meetL a b) (by omega)
  have e3 := self_ret (w0 := w0) (a := unionL a (unionL b c)) (by omega)
  have e4 := self_ret (w0 := w0) (a := meetL a (meetL b c)) (by omega)
  have e5 := self_ret (w0 := w0) (a := unionL (meetL a c) (meetL b c)) (by omega)
  have e6 := self_ret (w0 := w0) (a := unionL (minusL a c) (minusL b c)) (by omega)
  have e7 := self_ret (w0 := w0) (a := a) (by omega)
  have l13 := unionL_length a b
  generalize unionL (meetL a c) (meetL b c) = z1 at *
  generalize unionL (minusL a c) (minusL b c) = z2 at *
  generalize unionL a (unionL b c) = z3 at *
  generalize meetL a (meetL b c) = z4 at *
  generalize unionL b c = z5 at *
  generalize meetL b c = z6 at *
  generalize minusL b c = z7 at *
  generalize meetL a c = z8 at *
  generalize minusL a c = z9 at *
  generalize unionL a b = z10 at *
  generalize meetL a b = z11 at *
  generalize minusL a b = z12 at *
  repeat' (first
    | (with_reducible refine awp_skip ?_)
    | (with_reducible refine then_any ?_)
    | (with_reducible refine then_ret ?_)
    | (with_reducible refine then_exit ?_)
    | (with_reducible refine inBlock_normal ?_)
    | (with_reducible refine inBlock_ret ?_)
    | (with_reducible refine inBlock_hit ?_)
    | (with_reducible refine inBlock_miss (by decide) ?_)
    | (with_reducible refine awp_ret ?_)
    | (with_reducible refine awp_exit ?_)
    | (with_reducible refine post_ret ?_)
    | (with_reducible refine post_normal ?_)
    | (with_reducible refine awp_block ?_)
    | (with_reducible refine v_reg [] (fun K hK => ?_))
    | (with_reducible refine v_reg1 [] (fun K hK => ?_))
    | (with_reducible refine v_draw mixed [] [] (by kernel_rfl) (fun K hK => ?_))
    | (with_reducible refine v_draw1 mixed [] [] (by kernel_rfl) (fun K hK => ?_))
    | (with_reducible refine ev_nil (hK _ _ ?_); clear hK K)
    | (with_reducible refine ed_nil (hK _ _ ?_); clear hK K)
    | ((first | with_reducible refine ev_cons (fun K' hK' => ?_) | with_reducible refine ed_cons (fun K' hK' => ?_) | (with_reducible refine ev_id ?_; refine ev_guard rfl (fun K' hK' => ?_)) | (with_reducible refine ed_id ?_; refine ed_guard rfl (fun K' hK' => ?_))); simp [h1', h2', h3', ints, len]; repeat' (first | (with_reducible refine hK' _ _ ?_; clear hK' K') | (with_reducible refine Ret.use fixed2_ret ?_; try simp [h1', h2', h3', ints, len]) | (with_reducible refine Ret.use hma ?_; try simp [h1', h2', h3', ints, len]) | (with_reducible refine Ret.use hmb ?_; try simp [h1', h2', h3', ints, len]) | (with_reducible refine Ret.use hmc ?_; try simp [h1', h2', h3', ints, len]) | (with_reducible refine Ret.use c1 ?_; try simp [h1', h2', h3', ints, len]) | (with_reducible refine Ret.use c2 ?_; try simp [h1', h2', h3', ints, len]) | (with_reducible refine Ret.use c3 ?_; try simp [h1', h2', h3', ints, len]) | (with_reducible refine Ret.use c4 ?_; try simp [h1', h2', h3', ints, len]) | (with_reducible refine Ret.use c5 ?_; try simp [h1', h2', h3', ints, len]) | (with_reducible refine Ret.use c6 ?_; try simp [h1', h2', h3', ints, len]) | (with_reducible refine Ret.use c7 ?_; try simp [h1', h2', h3', ints, len]) | (with_reducible refine Ret.use c8 ?_; try simp [h1', h2', h3', ints, len]) | (with_reducible refine Ret.use c9 ?_; try simp [h1', h2', h3', ints, len]) | (with_reducible refine Ret.use c10 ?_; try simp [h1', h2', h3', ints, len]) | (with_reducible refine Ret.use c11 ?_; try simp [h1', h2', h3', ints, len]) | (with_reducible refine Ret.use c12 ?_; try simp [h1', h2', h3', ints, len]) | (with_reducible refine Ret.use c13 ?_; try simp [h1', h2', h3', ints, len]) | (with_reducible refine Ret.use c14 ?_; try simp [h1', h2', h3', ints, len]) | (with_reducible refine Ret.use c15 ?_; try simp [h1', h2', h3', ints, len]) | (with_reducible refine Ret.use c16 ?_; try simp [h1', h2', h3', ints, len]) | (with_reducible refine Ret.use c17 ?_; try simp [h1', h2', h3', ints, len]) | (with_reducible refine Ret.use c18 ?_; try simp [h1', h2', h3', ints, len]) | (with_reducible refine Ret.use c19 ?_; try simp [h1', h2', h3', ints, len]) | (with_reducible refine Ret.use b1 ?_; try simp [h1', h2', h3', ints, len]) | (with_reducible refine Ret.use b2 ?_; try simp [h1', h2', h3', ints, len]) | (with_reducible refine Ret.use b3 ?_; try simp [h1', h2', h3', ints, len]) | (with_reducible refine Ret.use e1 ?_; try simp [h1', h2', h3', ints, len]) | (with_reducible refine Ret.use e2 ?_; try simp [h1', h2', h3', ints, len]) | (with_reducible refine Ret.use e3 ?_; try simp [h1', h2', h3', ints, len]) | (with_reducible refine Ret.use e4 ?_; try simp [h1', h2', h3', ints, len]) | (with_reducible refine Ret.use e5 ?_; try simp [h1', h2', h3', ints, len]) | (with_reducible refine Ret.use e6 ?_; try simp [h1', h2', h3', ints, len]) | (with_reducible refine Ret.use e7 ?_; try simp [h1', h2', h3', ints, len]) | (with_reducible refine And.intro ?_ ?_) | (with_reducible intro hg) | (clear hK' K'; omega)))
    | (with_reducible refine w_cond (fun A B hA hB => ?_); simp [h1', h2', h3', ints, len]; repeat' (first | (with_reducible refine hA ?_; clear hA hB A B) | (with_reducible refine hB ?_; clear hA hB A B) | (with_reducible refine And.intro ?_ ?_) | (with_reducible intro hc)))
    | (with_reducible refine awp_seq ?_))
  all_goals simp
#print axioms setAlgebra_ret
end Go.Am
