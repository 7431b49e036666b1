/- Contracts: the fixed case of chapter 02. -/
import Derived.Test.YtbcgjjkchmgeoaaW29
import Derived.Test.YtbcgjjkchmgeoaaM6
namespace Go.Am
open Go Go.Proofs
set_option linter.unusedVariables false
set_option linter.unusedSimpArgs false
variable {w0 : World}
attribute [local irreducible] AWP ACalls
attribute [local congr] acalls_congr

theorem q1 : minusL [0, 2, 5] [2] = [0, 5] := by decide +kernel
theorem q2 : unionL [0, 5] [2, 5] = [0, 2, 5] := by decide +kernel
theorem q3 : meetL [0, 5] [2, 5] = [5] := by decide +kernel
theorem q4 : (risesB (-1) [0, 5] && decide ((5 : Int) ∈ [(0 : Int), 5])) = true := by decide +kernel
theorem q5 : (risesB (-1) [0, 5] && decide ((4 : Int) ∈ [(0 : Int), 5])) = false := by decide +kernel
theorem q6 : risesB (-1) [] = true := by decide +kernel
theorem q7 : risesB (-1) [1, 1] = false := by decide +kernel
theorem q8 : allL 3 = [0, 1, 2] := by decide +kernel
theorem q9 : (risesB (-1) [] && risesB (-1) [1] && decide ((meetL [] [1]).length = ([] : List Int).length)) = true := by decide +kernel
theorem q10 : (risesB (-1) [1] && risesB (-1) [] && decide ((meetL [1] []).length = [(1 : Int)].length)) = false := by decide +kernel
theorem q11 : sortR [5, -1, 2, 5] = [2, 5] := by decide +kernel
theorem q12 : unionL [2, 1] [] = [] := by decide +kernel

theorem fixed2_ret : Ret Try.prog w0 56 [] (B true) := by
  intro H
  have n1 : Ret Try.prog w0 28 [ints [0, 5], ints [0, 5]] (B true) := by simpa using same_ret (w0 := w0) (a := [0, 5]) (b := [0, 5]) (by decide) (by decide)
  have n2 : Ret Try.prog w0 28 [ints [0, 2, 5], ints [0, 2, 5]] (B true) := by simpa using same_ret (w0 := w0) (a := [0, 2, 5]) (b := [0, 2, 5]) (by decide) (by decide)
  have n3 : Ret Try.prog w0 28 [ints [5], ints [5]] (B true) := by simpa using same_ret (w0 := w0) (a := [5]) (b := [5]) (by decide) (by decide)
  have n4 : Ret Try.prog w0 28 [ints [0, 1, 2], ints [0, 1, 2]] (B true) := by simpa using same_ret (w0 := w0) (a := [0, 1, 2]) (b := [0, 1, 2]) (by decide) (by decide)
  have n5 : Ret Try.prog w0 28 [ints [2, 5], ints [2, 5]] (B true) := by simpa using same_ret (w0 := w0) (a := [2, 5]) (b := [2, 5]) (by decide) (by decide)
  have m1 := minus_ret (w0 := w0) (a := [0, 2, 5]) (b := [2]) (by decide) (by decide)
  have m2 := union_ret (w0 := w0) (a := [0, 5]) (b := [2, 5]) (by decide) (by decide)
  have m3 := meet_ret (w0 := w0) (a := [0, 5]) (b := [2, 5]) (by decide) (by decide)
  have m4 := has_ret (w0 := w0) (l := [0, 5]) (x := 5) (by decide)
  have m5 := has_ret (w0 := w0) (l := [0, 5]) (x := 4) (by decide)
  have m6 := (may_ret (w0 := w0) (l := []) (by decide))
  have m7 := may_ret (w0 := w0) (l := [1, 1]) (by decide)
  have m8 := all_ret (w0 := w0) (n := 3)
  have m9 := (sub_ret (w0 := w0) (a := []) (b := [1]) (by decide) (by decide))
  have m10 := (sub_ret (w0 := w0) (a := [1]) (b := []) (by decide) (by decide))
  have m11 := set_sort_ret (w0 := w0) (l := [5, -1, 2, 5]) (by decide)
  have m12 := (union_ret (w0 := w0) (a := [2, 1]) (b := []) (by decide) (by decide))
  rw [q1] at m1
  rw [q2] at m2
  rw [q3] at m3
  rw [q4] at m4
  rw [q5] at m5
  rw [q6] at m6
  rw [q7] at m7
  rw [q8] at m8
  rw [q9] at m9
  rw [q10] at m10
  rw [q11] at m11
  rw [q12] at m12
  simp only [ints, List.map_cons, List.map_nil, List.length_cons, List.length_nil] at m1 m2 m3 m4 m5 m6 m7 m8 m9 m10 m11 m12 n1 n2 n3 n4 n5
  refine w_enter Try.func56 rfl Try.ntmps56 (ts := [0]) rfl (by simp) (by kernel_rfl) ?_
  repeat' (first
    | (with_reducible refine awp_skip ?_)
    | (with_reducible refine then_any ?_)
    | (with_reducible refine then_ret ?_)
    | (with_reducible refine then_exit ?_)
    | (with_reducible refine inBlock_normal ?_)
    | (with_reducible refine inBlock_ret ?_)
    | (with_reducible refine inBlock_hit ?_)
    | (with_reducible refine inBlock_miss (by decide) ?_)
    | (with_reducible refine awp_ret ?_)
    | (with_reducible refine awp_exit ?_)
    | (with_reducible refine post_ret ?_)
    | (with_reducible refine post_normal ?_)
    | (with_reducible refine awp_block ?_)
    | (with_reducible refine v_reg [] (fun K hK => ?_))
    | (with_reducible refine v_reg1 [] (fun K hK => ?_))
    | (with_reducible refine v_draw mixed [] [] (by kernel_rfl) (fun K hK => ?_))
    | (with_reducible refine v_draw1 mixed [] [] (by kernel_rfl) (fun K hK => ?_))
    | (with_reducible refine ev_nil (hK _ _ ?_); clear hK K)
    | (with_reducible refine ed_nil (hK _ _ ?_); clear hK K)
    | ((first | with_reducible refine ev_cons (fun K' hK' => ?_) | with_reducible refine ed_cons (fun K' hK' => ?_) | (with_reducible refine ev_id ?_; refine ev_guard rfl (fun K' hK' => ?_)) | (with_reducible refine ed_id ?_; refine ed_guard rfl (fun K' hK' => ?_))); simp; repeat' (first | (with_reducible refine hK' _ _ ?_; clear hK' K') | (with_reducible refine Ret.use m1 ?_; try simp) | (with_reducible refine Ret.use m2 ?_; try simp) | (with_reducible refine Ret.use m3 ?_; try simp) | (with_reducible refine Ret.use m4 ?_; try simp) | (with_reducible refine Ret.use m5 ?_; try simp) | (with_reducible refine Ret.use m6 ?_; try simp) | (with_reducible refine Ret.use m7 ?_; try simp) | (with_reducible refine Ret.use m8 ?_; try simp) | (with_reducible refine Ret.use m9 ?_; try simp) | (with_reducible refine Ret.use m10 ?_; try simp) | (with_reducible refine Ret.use m11 ?_; try simp) | (with_reducible refine Ret.use m12 ?_; try simp) | (with_reducible refine Ret.use n1 ?_; try simp) | (with_reducible refine Ret.use n2 ?_; try simp) | (with_reducible refine Ret.use n3 ?_; try simp) | (with_reducible refine Ret.use n4 ?_; try simp) | (with_reducible refine Ret.use n5 ?_; try simp) | (with_reducible refine And.intro ?_ ?_) | (with_reducible intro hg) | (clear hK' K'; omega)))
    | (with_reducible refine w_cond (fun A B hA hB => ?_); simp; repeat' (first | (with_reducible refine hA ?_; clear hA hB A B) | (with_reducible refine hB ?_; clear hA hB A B) | (with_reducible refine And.intro ?_ ?_) | (with_reducible intro hc)))
    | (with_reducible refine awp_seq ?_))
  all_goals simp
#print axioms fixed2_ret
end Go.Am
