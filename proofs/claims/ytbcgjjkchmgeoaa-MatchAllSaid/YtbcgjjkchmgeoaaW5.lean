/- Contracts: union, meet, difference, subset, membership, and the reference's sorted list and union. -/
import Derived.Test.YtbcgjjkchmgeoaaW4
namespace Go.Am
open Go Go.Proofs
set_option linter.unusedVariables false
set_option linter.unusedSimpArgs false
variable {w0 : World}
attribute [local irreducible] AWP ACalls
attribute [local congr] acalls_congr

def unionL (a b : List Int) : List Int := if risesB (-1) a && risesB (-1) b then mergeL true true true a b else []
def meetL (a b : List Int) : List Int := if risesB (-1) a && risesB (-1) b then mergeL false false true a b else []
def minusL (a b : List Int) : List Int := if risesB (-1) a && risesB (-1) b then mergeL true false false a b else []

theorem union_ret {a b : List Int} (ha : smLen a) (hb : smLen b) : Ret Try.prog w0 63 [ints a, ints b] (ints (unionL a b)) := by
  intro H
  refine w_enter Try.func63 rfl Try.ntmps63 (ts := [4]) rfl (by simp) (by kernel_rfl) ?_
  repeat' (first
    | (with_reducible refine awp_skip ?_)
    | (with_reducible refine then_any ?_)
    | (with_reducible refine then_ret ?_)
    | (with_reducible refine then_exit ?_)
    | (with_reducible refine inBlock_normal ?_)
    | (with_reducible refine inBlock_ret ?_)
    | (with_reducible refine inBlock_hit ?_)
    | (with_reducible refine inBlock_miss (by decide) ?_)
    | (with_reducible refine awp_ret ?_)
    | (with_reducible refine awp_exit ?_)
    | (with_reducible refine post_ret ?_)
    | (with_reducible refine post_normal ?_)
    | (with_reducible refine awp_block ?_)
    | (with_reducible refine v_reg [] (fun K hK => ?_))
    | (with_reducible refine v_reg1 [] (fun K hK => ?_))
    | (with_reducible refine v_draw mixed [] [] (by kernel_rfl) (fun K hK => ?_))
    | (with_reducible refine v_draw1 mixed [] [] (by kernel_rfl) (fun K hK => ?_))
    | (with_reducible refine ev_nil (hK _ _ ?_); clear hK K)
    | (with_reducible refine ed_nil (hK _ _ ?_); clear hK K)
    | ((first | with_reducible refine ev_cons (fun K' hK' => ?_) | with_reducible refine ed_cons (fun K' hK' => ?_) | (with_reducible refine ev_id ?_; refine ev_guard rfl (fun K' hK' => ?_)) | (with_reducible refine ed_id ?_; refine ed_guard rfl (fun K' hK' => ?_))); simp [ints]; repeat' (first | (with_reducible refine hK' _ _ ?_; clear hK' K') | (with_reducible refine Ret.use (merge_ret ha hb) ?_; try simp [ints]) | (with_reducible refine And.intro ?_ ?_) | (with_reducible intro hg) | (clear hK' K'; omega)))
    | (with_reducible refine w_cond (fun A B hA hB => ?_); simp [ints]; repeat' (first | (with_reducible refine hA ?_; clear hA hB A B) | (with_reducible refine hB ?_; clear hA hB A B) | (with_reducible refine And.intro ?_ ?_) | (with_reducible intro hc)))
    | (with_reducible refine awp_seq ?_))
  simp [unionL]
theorem meet_ret {a b : List Int} (ha : smLen a) (hb : smLen b) : Ret Try.prog w0 64 [ints a, ints b] (ints (meetL a b)) := by
  intro H
  refine w_enter Try.func64 rfl Try.ntmps64 (ts := [4]) rfl (by simp) (by kernel_rfl) ?_
  repeat' (first
    | (with_reducible refine awp_skip ?_)
    | (with_reducible refine then_any ?_)
    | (with_reducible refine then_ret ?_)
    | (with_reducible refine then_exit ?_)
    | (with_reducible refine inBlock_normal ?_)
    | (with_reducible refine inBlock_ret ?_)
    | (with_reducible refine inBlock_hit ?_)
    | (with_reducible refine inBlock_miss (by decide) ?_)
    | (with_reducible refine awp_ret ?_)
    | (with_reducible refine awp_exit ?_)
    | (with_reducible refine post_ret ?_)
    | (with_reducible refine post_normal ?_)
    | (with_reducible refine awp_block ?_)
    | (with_reducible refine v_reg [] (fun K hK => ?_))
    | (with_reducible refine v_reg1 [] (fun K hK => ?_))
    | (with_reducible refine v_draw mixed [] [] (by kernel_rfl) (fun K hK => ?_))
    | (with_reducible refine v_draw1 mixed [] [] (by kernel_rfl) (fun K hK => ?_))
    | (with_reducible refine ev_nil (hK _ _ ?_); clear hK K)
    | (with_reducible refine ed_nil (hK _ _ ?_); clear hK K)
    | ((first | with_reducible refine ev_cons (fun K' hK' => ?_) | with_reducible refine ed_cons (fun K' hK' => ?_) | (with_reducible refine ev_id ?_; refine ev_guard rfl (fun K' hK' => ?_)) | (with_reducible refine ed_id ?_; refine ed_guard rfl (fun K' hK' => ?_))); simp [ints]; repeat' (first | (with_reducible refine hK' _ _ ?_; clear hK' K') | (with_reducible refine Ret.use (merge_ret ha hb) ?_; try simp [ints]) | (with_reducible refine And.intro ?_ ?_) | (with_reducible intro hg) | (clear hK' K'; omega)))
    | (with_reducible refine w_cond (fun A B hA hB => ?_); simp [ints]; repeat' (first | (with_reducible refine hA ?_; clear hA hB A B) | (with_reducible refine hB ?_; clear hA hB A B) | (with_reducible refine And.intro ?_ ?_) | (with_reducible intro hc)))
    | (with_reducible refine awp_seq ?_))
  simp [meetL]
theorem minus_ret {a b : List Int} (ha : smLen a) (hb : smLen b) : Ret Try.prog w0 65 [ints a, ints b] (ints (minusL a b)) := by
  intro H
  refine w_enter Try.func65 rfl Try.ntmps65 (ts := [4]) rfl (by simp) (by kernel_rfl) ?_
  repeat' (first
    | (with_reducible refine awp_skip ?_)
    | (with_reducible refine then_any ?_)
    | (with_reducible refine then_ret ?_)
    | (with_reducible refine then_exit ?_)
    | (with_reducible refine inBlock_normal ?_)
    | (with_reducible refine inBlock_ret ?_)
    | (with_reducible refine inBlock_hit ?_)
    | (with_reducible refine inBlock_miss (by decide) ?_)
    | (with_reducible refine awp_ret ?_)
    | (with_reducible refine awp_exit ?_)
    | (with_reducible refine post_ret ?_)
    | (with_reducible refine post_normal ?_)
    | (with_reducible refine awp_block ?_)
    | (with_reducible refine v_reg [] (fun K hK => ?_))
    | (with_reducible refine v_reg1 [] (fun K hK => ?_))
    | (with_reducible refine v_draw mixed [] [] (by kernel_rfl) (fun K hK => ?_))
    | (with_reducible refine v_draw1 mixed [] [] (by kernel_rfl) (fun K hK => ?_))
    | (with_reducible refine ev_nil (hK _ _ ?_); clear hK K)
    | (with_reducible refine ed_nil (hK _ _ ?_); clear hK K)
    | ((first | with_reducible refine ev_cons (fun K' hK' => ?_) | with_reducible refine ed_cons (fun K' hK' => ?_) | (with_reducible refine ev_id ?_; refine ev_guard rfl (fun K' hK' => ?_)) | (with_reducible refine ed_id ?_; refine ed_guard rfl (fun K' hK' => ?_))); simp [ints]; repeat' (first | (with_reducible refine hK' _ _ ?_; clear hK' K') | (with_reducible refine Ret.use (merge_ret ha hb) ?_; try simp [ints]) | (with_reducible refine And.intro ?_ ?_) | (with_reducible intro hg) | (clear hK' K'; omega)))
    | (with_reducible refine w_cond (fun A B hA hB => ?_); simp [ints]; repeat' (first | (with_reducible refine hA ?_; clear hA hB A B) | (with_reducible refine hB ?_; clear hA hB A B) | (with_reducible refine And.intro ?_ ?_) | (with_reducible intro hc)))
    | (with_reducible refine awp_seq ?_))
  simp [minusL]
theorem sub_ret {a b : List Int} (ha : smLen a) (hb : smLen b) : Ret Try.prog w0 59 [ints a, ints b] (B (risesB (-1) a && risesB (-1) b && decide ((meetL a b).length = a.length))) := by
  intro H
  have ha' : okLen a := by omega
  have hb' : okLen b := by omega
  refine w_enter Try.func59 rfl Try.ntmps59 (ts := [4]) rfl (by simp) (by kernel_rfl) ?_
  repeat' (first
    | (with_reducible refine awp_skip ?_)
    | (with_reducible refine then_any ?_)
    | (with_reducible refine then_ret ?_)
    | (with_reducible refine then_exit ?_)
    | (with_reducible refine inBlock_normal ?_)
    | (with_reducible refine inBlock_ret ?_)
    | (with_reducible refine inBlock_hit ?_)
    | (with_reducible refine inBlock_miss (by decide) ?_)
    | (with_reducible refine awp_ret ?_)
    | (with_reducible refine awp_exit ?_)
    | (with_reducible refine post_ret ?_)
    | (with_reducible refine post_normal ?_)
    | (with_reducible refine awp_block ?_)
    | (with_reducible refine v_reg [] (fun K hK => ?_))
    | (with_reducible refine v_reg1 [] (fun K hK => ?_))
    | (with_reducible refine v_draw mixed [] [] (by kernel_rfl) (fun K hK => ?_))
    | (with_reducible refine v_draw1 mixed [] [] (by kernel_rfl) (fun K hK => ?_))
    | (with_reducible refine ev_nil (hK _ _ ?_); clear hK K)
    | (with_reducible refine ed_nil (hK _ _ ?_); clear hK K)
    | ((first | with_reducible refine ev_cons (fun K' hK' => ?_) | with_reducible refine ed_cons (fun K' hK' => ?_) | (with_reducible refine ev_id ?_; refine ev_guard rfl (fun K' hK' => ?_)) | (with_reducible refine ed_id ?_; refine ed_guard rfl (fun K' hK' => ?_))); simp [ints]; repeat' (first | (with_reducible refine hK' _ _ ?_; clear hK' K') | (with_reducible refine Ret.use (may_ret ha') ?_; try simp [ints]) | (with_reducible refine Ret.use (may_ret hb') ?_; try simp [ints]) | (with_reducible refine Ret.use (meet_ret ha hb) ?_; try simp [ints]) | (with_reducible refine And.intro ?_ ?_) | (with_reducible intro hg) | (clear hK' K'; omega)))
    | (with_reducible refine w_cond (fun A B hA hB => ?_); simp [ints]; repeat' (first | (with_reducible refine hA ?_; clear hA hB A B) | (with_reducible refine hB ?_; clear hA hB A B) | (with_reducible refine And.intro ?_ ?_) | (with_reducible intro hc)))
    | (with_reducible refine awp_seq ?_))
  all_goals simp_all
  all_goals omega

theorem isnan_ret {x : Int} : Ret Try.prog w0 97 [I x] (B false) := by
  intro H
  refine w_enter Try.func97 rfl Try.ntmps97 (ts := [2]) rfl (by simp) (by kernel_rfl) ?_
  repeat' (first
    | (with_reducible refine awp_skip ?_)
    | (with_reducible refine then_any ?_)
    | (with_reducible refine then_ret ?_)
    | (with_reducible refine then_exit ?_)
    | (with_reducible refine inBlock_normal ?_)
    | (with_reducible refine inBlock_ret ?_)
    | (with_reducible refine inBlock_hit ?_)
    | (with_reducible refine inBlock_miss (by decide) ?_)
    | (with_reducible refine awp_ret ?_)
    | (with_reducible refine awp_exit ?_)
    | (with_reducible refine post_ret ?_)
    | (with_reducible refine post_normal ?_)
    | (with_reducible refine awp_block ?_)
    | (with_reducible refine v_reg [] (fun K hK => ?_))
    | (with_reducible refine v_reg1 [] (fun K hK => ?_))
    | (with_reducible refine v_draw mixed [] [] (by kernel_rfl) (fun K hK => ?_))
    | (with_reducible refine v_draw1 mixed [] [] (by kernel_rfl) (fun K hK => ?_))
    | (with_reducible refine ev_nil (hK _ _ ?_); clear hK K)
    | (with_reducible refine ed_nil (hK _ _ ?_); clear hK K)
    | ((first | with_reducible refine ev_cons (fun K' hK' => ?_) | with_reducible refine ed_cons (fun K' hK' => ?_) | (with_reducible refine ev_id ?_; refine ev_guard rfl (fun K' hK' => ?_)) | (with_reducible refine ed_id ?_; refine ed_guard rfl (fun K' hK' => ?_))); simp; repeat' (first | (with_reducible refine hK' _ _ ?_; clear hK' K') | (with_reducible refine And.intro ?_ ?_) | (with_reducible intro hg) | (clear hK' K'; omega)))
    | (with_reducible refine w_cond (fun A B hA hB => ?_); simp; repeat' (first | (with_reducible refine hA ?_; clear hA hB A B) | (with_reducible refine hB ?_; clear hA hB A B) | (with_reducible refine And.intro ?_ ?_) | (with_reducible intro hc)))
    | (with_reducible refine awp_seq ?_))
  simp
theorem cnan_ret {x : Int} : Ret Try.prog w0 101 [I x] (B false) := by
  intro H
  refine w_enter Try.func101 rfl Try.ntmps101 (ts := [2]) rfl (by simp) (by kernel_rfl) ?_
  repeat' (first
    | (with_reducible refine awp_skip ?_)
    | (with_reducible refine then_any ?_)
    | (with_reducible refine then_ret ?_)
    | (with_reducible refine then_exit ?_)
    | (with_reducible refine inBlock_normal ?_)
    | (with_reducible refine inBlock_ret ?_)
    | (with_reducible refine inBlock_hit ?_)
    | (with_reducible refine inBlock_miss (by decide) ?_)
    | (with_reducible refine awp_ret ?_)
    | (with_reducible refine awp_exit ?_)
    | (with_reducible refine post_ret ?_)
    | (with_reducible refine post_normal ?_)
    | (with_reducible refine awp_block ?_)
    | (with_reducible refine v_reg [] (fun K hK => ?_))
    | (with_reducible refine v_reg1 [] (fun K hK => ?_))
    | (with_reducible refine v_draw mixed [] [] (by kernel_rfl) (fun K hK => ?_))
    | (with_reducible refine v_draw1 mixed [] [] (by kernel_rfl) (fun K hK => ?_))
    | (with_reducible refine ev_nil (hK _ _ ?_); clear hK K)
    | (with_reducible refine ed_nil (hK _ _ ?_); clear hK K)
    | ((first | with_reducible refine ev_cons (fun K' hK' => ?_) | with_reducible refine ed_cons (fun K' hK' => ?_) | (with_reducible refine ev_id ?_; refine ev_guard rfl (fun K' hK' => ?_)) | (with_reducible refine ed_id ?_; refine ed_guard rfl (fun K' hK' => ?_))); simp; repeat' (first | (with_reducible refine hK' _ _ ?_; clear hK' K') | (with_reducible refine And.intro ?_ ?_) | (with_reducible intro hg) | (clear hK' K'; omega)))
    | (with_reducible refine w_cond (fun A B hA hB => ?_); simp; repeat' (first | (with_reducible refine hA ?_; clear hA hB A B) | (with_reducible refine hB ?_; clear hA hB A B) | (with_reducible refine And.intro ?_ ?_) | (with_reducible intro hc)))
    | (with_reducible refine awp_seq ?_))
  simp
theorem less_ret {x y : Int} : Ret Try.prog w0 96 [I x, I y] (B (decide (x < y))) := by
  intro H
  refine w_enter Try.func96 rfl Try.ntmps96 (ts := [4]) rfl (by simp) (by kernel_rfl) ?_
  repeat' (first
    | (with_reducible refine awp_skip ?_)
    | (with_reducible refine then_any ?_)
    | (with_reducible refine then_ret ?_)
    | (with_reducible refine then_exit ?_)
    | (with_reducible refine inBlock_normal ?_)
    | (with_reducible refine inBlock_ret ?_)
    | (with_reducible refine inBlock_hit ?_)
    | (with_reducible refine inBlock_miss (by decide) ?_)
    | (with_reducible refine awp_ret ?_)
    | (with_reducible refine awp_exit ?_)
    | (with_reducible refine post_ret ?_)
    | (with_reducible refine post_normal ?_)
    | (with_reducible refine awp_block ?_)
    | (with_reducible refine v_reg [] (fun K hK => ?_))
    | (with_reducible refine v_reg1 [] (fun K hK => ?_))
    | (with_reducible refine v_draw mixed [] [] (by kernel_rfl) (fun K hK => ?_))
    | (with_reducible refine v_draw1 mixed [] [] (by kernel_rfl) (fun K hK => ?_))
    | (with_reducible refine ev_nil (hK _ _ ?_); clear hK K)
    | (with_reducible refine ed_nil (hK _ _ ?_); clear hK K)
    | ((first | with_reducible refine ev_cons (fun K' hK' => ?_) | with_reducible refine ed_cons (fun K' hK' => ?_) | (with_reducible refine ev_id ?_; refine ev_guard rfl (fun K' hK' => ?_)) | (with_reducible refine ed_id ?_; refine ed_guard rfl (fun K' hK' => ?_))); simp; repeat' (first | (with_reducible refine hK' _ _ ?_; clear hK' K') | (with_reducible refine Ret.use cnan_ret ?_; try simp) | (with_reducible refine And.intro ?_ ?_) | (with_reducible intro hg) | (clear hK' K'; omega)))
    | (with_reducible refine w_cond (fun A B hA hB => ?_); simp; repeat' (first | (with_reducible refine hA ?_; clear hA hB A B) | (with_reducible refine hB ?_; clear hA hB A B) | (with_reducible refine And.intro ?_ ?_) | (with_reducible intro hc)))
    | (with_reducible refine awp_seq ?_))
  simp

/-- A number laid into a list, before the first greater one. -/
def insL (x : Int) : List Int → List Int
  | [] => [x]
  | y :: l => if x < y then x :: y :: l else y :: insL x l

/-- The reference's sorted list. -/
def sortR (l : List Int) : List Int := l.foldl (fun out x => if x < 0 ∨ 1099511627776 < x ∨ x ∈ out then out else insL x out) []

theorem insL_length (x : Int) (l : List Int) : (insL x l).length = l.length + 1 := by
  induction l with
  | nil => rfl
  | cons y l ih => simp only [insL]; split <;> simp [ih]
theorem insL_split (x : Int) (l : List Int) : insL x l = l.takeWhile (· ≤ x) ++ x :: l.dropWhile (· ≤ x) := by
  induction l with
  | nil => rfl
  | cons y l ih =>
    simp only [insL, List.takeWhile_cons, List.dropWhile_cons]
    by_cases h : x < y
    · simp [h, show ¬ y ≤ x by omega]
    · simp [h, show y ≤ x by omega, ih]

theorem insL_ge (x : Int) (l : List Int) : (sortR l).length ≤ l.length := by
  unfold sortR
  have : ∀ (l : List Int) (out : List Int), (l.foldl (fun out x => if x < 0 ∨ 1099511627776 < x ∨ x ∈ out then out else insL x out) out).length ≤ out.length + l.length := by
    intro l
    induction l with
    | nil => intro out; simp
    | cons x l ih =>
      intro out
      simp only [List.foldl_cons, List.length_cons]
      refine Nat.le_trans (ih _) ?_
      split
      · omega
      · rw [insL_length]; omega
  simpa using this l []

theorem sortR_take {l : List Int} {n : Nat} (h : n < l.length) : sortR (l.take (n + 1)) = if l[n] < 0 ∨ 1099511627776 < l[n] ∨ l[n] ∈ sortR (l.take n) then sortR (l.take n) else insL l[n] (sortR (l.take n)) := by
  unfold sortR
  rw [List.take_succ_eq_append_getElem h, List.foldl_append]
  rfl

theorem sort2_ret {l : List Int} (hl : smLen l) : Ret Try.prog w0 61 [ints l] (ints (sortR l)) := by
  intro H
  refine w_enter Try.func61 rfl Try.ntmps61 (ts := [2]) rfl (by simp) (by kernel_rfl) ?_
  repeat' (first
    | (with_reducible refine awp_skip ?_)
    | (with_reducible refine then_any ?_)
    | (with_reducible refine then_ret ?_)
    | (with_reducible refine then_exit ?_)
    | (with_reducible refine inBlock_normal ?_)
    | (with_reducible refine inBlock_ret ?_)
    | (with_reducible refine inBlock_hit ?_)
    | (with_reducible refine inBlock_miss (by decide) ?_)
    | (with_reducible refine awp_ret ?_)
    | (with_reducible refine awp_exit ?_)
    | (with_reducible refine post_ret ?_)
    | (with_reducible refine post_normal ?_)
    | (with_reducible refine awp_block ?_)
    | (with_reducible refine v_reg [8] (fun K hK => ?_))
    | (with_reducible refine v_reg1 [8] (fun K hK => ?_))
    | (with_reducible refine v_draw mixed [8] [] (by kernel_rfl) (fun K hK => ?_))
    | (with_reducible refine v_draw1 mixed [8] [] (by kernel_rfl) (fun K hK => ?_))
    | (with_reducible refine ev_nil (hK _ _ ?_); clear hK K)
    | (with_reducible refine ed_nil (hK _ _ ?_); clear hK K)
    | ((first | with_reducible refine ev_cons (fun K' hK' => ?_) | with_reducible refine ed_cons (fun K' hK' => ?_) | (with_reducible refine ev_id ?_; refine ev_guard rfl (fun K' hK' => ?_)) | (with_reducible refine ed_id ?_; refine ed_guard rfl (fun K' hK' => ?_))); simp [ints]; repeat' (first | (with_reducible refine hK' _ _ ?_; clear hK' K') | (with_reducible refine And.intro ?_ ?_) | (with_reducible intro hg) | (clear hK' K'; omega)))
    | (with_reducible refine w_cond (fun A B hA hB => ?_); simp [ints]; repeat' (first | (with_reducible refine hA ?_; clear hA hB A B) | (with_reducible refine hB ?_; clear hA hB A B) | (with_reducible refine And.intro ?_ ?_) | (with_reducible intro hc)))
    | (with_reducible refine awp_seq ?_))
  rename_i r
  have hr : H r = none := hg
  clear hg
  refine awp_loop_prep (fun env h => ∃ (k : Nat), k ≤ l.length ∧ env 4 = I k ∧ env 0 = ints l ∧ env 3 = ints (sortR (l.take k)) ∧ h = H) 
    (fun env h => ∃ (k : Nat), k ≤ l.length ∧ env 4 = I k ∧ env 0 = ints l ∧ listIn H 3 (sortR (l.take k)) env h) (fun env _ => l.length - natA (env 4)) ?_ ?_ ?_
  · exact ⟨0, by omega, by simp, by simp, .inr ⟨r, hr, by simp [sortR], by simp [sortR]⟩⟩
  · rintro env h ⟨k, hk, h4, h0, h3⟩ Q' q
    exact h3.prep fun env' e e' => q env' H ⟨k, hk, by rw [e' _ (by decide), h4], by rw [e' _ (by decide), h0], e, rfl⟩ (by rw [e' _ (by decide)])
  rintro env h ⟨n, hn, h4, h0, h3, rfl⟩
  have hnat : natA (env 4) = n := by simp [h4]
  rw [hnat]; clear hnat
  have hlen := insL_ge 0 (l.take n)
  rw [List.length_take] at hlen
  have hst := fun h => sortR_take (l := l) (n := n) h
  generalize hout : sortR (l.take n) = out at h3 hlen hst
  by_cases hlt : n < l.length
  · have hst := hst hlt
    have hol : okLen out := by omega
    repeat' (first
      | (with_reducible refine awp_skip ?_)
      | (with_reducible refine then_any ?_)
      | (with_reducible refine then_ret ?_)
      | (with_reducible refine then_exit ?_)
      | (with_reducible refine inBlock_normal ?_)
      | (with_reducible refine inBlock_ret ?_)
      | (with_reducible refine inBlock_hit ?_)
      | (with_reducible refine inBlock_miss (by decide) ?_)
      | (with_reducible refine awp_ret ?_)
      | (with_reducible refine awp_exit ?_)
      | (with_reducible refine post_ret ?_)
      | (with_reducible refine post_normal ?_)
      | (with_reducible refine awp_block ?_)
      | (with_reducible refine v_reg [35] (fun K hK => ?_))
      | (with_reducible refine v_reg1 [35] (fun K hK => ?_))
      | (with_reducible refine v_draw mixed [35] [] (by kernel_rfl) (fun K hK => ?_))
      | (with_reducible refine v_draw1 mixed [35] [] (by kernel_rfl) (fun K hK => ?_))
      | (with_reducible refine ev_nil (hK _ _ ?_); clear hK K)
      | (with_reducible refine ed_nil (hK _ _ ?_); clear hK K)
      | ((first | with_reducible refine ev_cons (fun K' hK' => ?_) | with_reducible refine ed_cons (fun K' hK' => ?_) | (with_reducible refine ev_id ?_; refine ev_guard rfl (fun K' hK' => ?_)) | (with_reducible refine ed_id ?_; refine ed_guard rfl (fun K' hK' => ?_))); simp [h4, h0, h3, hlt, ints]; repeat' (first | (with_reducible refine hK' _ _ ?_; clear hK' K') | (with_reducible refine Ret.use (in_ret hol) ?_; try simp [h4, h0, h3, hlt, ints]) | (with_reducible refine And.intro ?_ ?_) | (with_reducible intro hg) | (clear hK' K'; omega)))
      | (with_reducible refine w_cond (fun A B hA hB => ?_); simp [h4, h0, h3, hlt, ints]; repeat' (first | (with_reducible refine hA ?_; clear hA hB A B) | (with_reducible refine hB ?_; clear hA hB A B) | (with_reducible refine And.intro ?_ ?_) | (with_reducible intro hc)))
      | (with_reducible refine awp_seq ?_))
    rotate_left
    · rename_i r2
      have hr2 : h r2 = none := hg
      clear hg
      have hno : ¬ (l[n] < 0 ∨ 1099511627776 < l[n] ∨ l[n] ∈ out) := by
        rintro (h | h | h)
        · omega
        · omega
        · exact absurd h (by assumption)
      rw [if_neg hno] at hst
      have hx : ∀ x, x = l[n] → insL x out = insL l[n] out := by rintro _ rfl; rfl
      refine awp_loop (fun env h' => ∃ (k : Nat) (next : List Int) (ld : Bool), k ≤ out.length ∧ env 7 = I k ∧ env 6 = B ld ∧ env 4 = I n ∧ env 0 = ints l ∧ env 3 = ints out ∧ env 5 = .ref r2 0 next.length next.length ∧
        next ++ (if ld then out.drop k else insL l[n] (out.drop k)) = insL l[n] out ∧ h' = upd h r2 (some (.arr 1 3 (next.map I) next.length))) (fun env _ => out.length - natA (env 7)) ?_ ?_
      · exact ⟨0, [], false, by omega, by simp, by simp, by simp [h4], by simp [h0], by simp [h3], by simp, by simp, by simp⟩
      clear h4 h0 h3
      rintro env1 h1 ⟨k, next, ld, hk, h7, h6, h4, h0, h3, h5, hnx, rfl⟩
      have hnat : natA (env1 7) = k := by simp [h7]
      rw [hnat]; clear hnat
      have hnl : next.length ≤ out.length + 1 := by
        have := congrArg List.length hnx
        rw [insL_length] at this
        simp only [List.length_append] at this
        omega
      by_cases hk' : k < out.length
      · rw [List.drop_eq_getElem_cons hk'] at hnx
        cases ld with
        | false =>
          rw [if_neg (by simp), insL] at hnx
          have hnl2 : next.length + 1 ≤ out.length + 1 := by
            have := congrArg List.length hnx
            rw [insL_length] at this
            split at this <;> simp [insL_length] at this <;> omega
          repeat' (first
            | (with_reducible refine awp_skip ?_)
            | (with_reducible refine then_any ?_)
            | (with_reducible refine then_ret ?_)
            | (with_reducible refine then_exit ?_)
            | (with_reducible refine inBlock_normal ?_)
            | (with_reducible refine inBlock_ret ?_)
            | (with_reducible refine inBlock_hit ?_)
            | (with_reducible refine inBlock_miss (by decide) ?_)
            | (with_reducible refine awp_ret ?_)
            | (with_reducible refine awp_exit ?_)
            | (with_reducible refine post_ret ?_)
            | (with_reducible refine post_normal ?_)
            | (with_reducible refine awp_block ?_)
            | (with_reducible refine v_reg [] (fun K hK => ?_))
            | (with_reducible refine v_reg1 [] (fun K hK => ?_))
            | (with_reducible refine v_draw mixed [] [] (by kernel_rfl) (fun K hK => ?_))
            | (with_reducible refine v_draw1 mixed [] [] (by kernel_rfl) (fun K hK => ?_))
            | (with_reducible refine ev_nil (hK _ _ ?_); clear hK K)
            | (with_reducible refine ed_nil (hK _ _ ?_); clear hK K)
            | ((first | with_reducible refine ev_cons (fun K' hK' => ?_) | with_reducible refine ed_cons (fun K' hK' => ?_) | (with_reducible refine ev_id ?_; refine ev_guard rfl (fun K' hK' => ?_)) | (with_reducible refine ed_id ?_; refine ed_guard rfl (fun K' hK' => ?_))); simp [h7, h6, h4, h0, h3, h5, hk', hlt, ints]; repeat' (first | (with_reducible refine hK' _ _ ?_; clear hK' K') | (with_reducible refine And.intro ?_ ?_) | (with_reducible intro hg) | (clear hK' K'; omega)))
            | (with_reducible refine w_cond (fun A B hA hB => ?_); simp [h7, h6, h4, h0, h3, h5, hk', hlt, ints]; repeat' (first | (with_reducible refine hA ?_; clear hA hB A B) | (with_reducible refine hB ?_; clear hA hB A B) | (with_reducible refine And.intro ?_ ?_) | (with_reducible intro hc)))
            | (with_reducible refine awp_seq ?_))
          · rw [if_pos hc] at hnx
            exact ⟨⟨k + 1, next ++ [l[n], out[k]], true, by omega, by simp, by simp, by simp [h4], by simp [h0], by simp [h3], by simp, by simpa using hnx, by simp⟩, by simp; omega⟩
          · rw [if_neg (by omega)] at hnx
            exact ⟨⟨k + 1, next ++ [out[k]], false, by omega, by simp, by simp [h6], by simp [h4], by simp [h0], by simp [h3], by simp, by simpa using hnx, by simp⟩, by simp; omega⟩
        | true =>
          rw [if_pos rfl] at hnx
          repeat' (first
            | (with_reducible refine awp_skip ?_)
            | (with_reducible refine then_any ?_)
            | (with_reducible refine then_ret ?_)
            | (with_reducible refine then_exit ?_)
            | (with_reducible refine inBlock_normal ?_)
            | (with_reducible refine inBlock_ret ?_)
            | (with_reducible refine inBlock_hit ?_)
            | (with_reducible refine inBlock_miss (by decide) ?_)
            | (with_reducible refine awp_ret ?_)
            | (with_reducible refine awp_exit ?_)
            | (with_reducible refine post_ret ?_)
            | (with_reducible refine post_normal ?_)
            | (with_reducible refine awp_block ?_)
            | (with_reducible refine v_reg [] (fun K hK => ?_))
            | (with_reducible refine v_reg1 [] (fun K hK => ?_))
            | (with_reducible refine v_draw mixed [] [] (by kernel_rfl) (fun K hK => ?_))
            | (with_reducible refine v_draw1 mixed [] [] (by kernel_rfl) (fun K hK => ?_))
            | (with_reducible refine ev_nil (hK _ _ ?_); clear hK K)
            | (with_reducible refine ed_nil (hK _ _ ?_); clear hK K)
            | ((first | with_reducible refine ev_cons (fun K' hK' => ?_) | with_reducible refine ed_cons (fun K' hK' => ?_) | (with_reducible refine ev_id ?_; refine ev_guard rfl (fun K' hK' => ?_)) | (with_reducible refine ed_id ?_; refine ed_guard rfl (fun K' hK' => ?_))); simp [h7, h6, h4, h0, h3, h5, hk', hlt, ints]; repeat' (first | (with_reducible refine hK' _ _ ?_; clear hK' K') | (with_reducible refine And.intro ?_ ?_) | (with_reducible intro hg) | (clear hK' K'; omega)))
            | (with_reducible refine w_cond (fun A B hA hB => ?_); simp [h7, h6, h4, h0, h3, h5, hk', hlt, ints]; repeat' (first | (with_reducible refine hA ?_; clear hA hB A B) | (with_reducible refine hB ?_; clear hA hB A B) | (with_reducible refine And.intro ?_ ?_) | (with_reducible intro hc)))
            | (with_reducible refine awp_seq ?_))
          exact ⟨⟨k + 1, next ++ [out[k]], true, by omega, by simp, by simp [h6], by simp [h4], by simp [h0], by simp [h3], by simp, by simpa using hnx, by simp⟩, by simp; omega⟩
      · have : k = out.length := by omega
        subst this
        rw [List.drop_length] at hnx
        cases ld with
        | false =>
          rw [if_neg (by simp), insL] at hnx
          repeat' (first
            | (with_reducible refine awp_skip ?_)
            | (with_reducible refine then_any ?_)
            | (with_reducible refine then_ret ?_)
            | (with_reducible refine then_exit ?_)
            | (with_reducible refine inBlock_normal ?_)
            | (with_reducible refine inBlock_ret ?_)
            | (with_reducible refine inBlock_hit ?_)
            | (with_reducible refine inBlock_miss (by decide) ?_)
            | (with_reducible refine awp_ret ?_)
            | (with_reducible refine awp_exit ?_)
            | (with_reducible refine post_ret ?_)
            | (with_reducible refine post_normal ?_)
            | (with_reducible refine awp_block ?_)
            | (with_reducible refine v_reg [] (fun K hK => ?_))
            | (with_reducible refine v_reg1 [] (fun K hK => ?_))
            | (with_reducible refine v_draw mixed [] [] (by kernel_rfl) (fun K hK => ?_))
            | (with_reducible refine v_draw1 mixed [] [] (by kernel_rfl) (fun K hK => ?_))
            | (with_reducible refine ev_nil (hK _ _ ?_); clear hK K)
            | (with_reducible refine ed_nil (hK _ _ ?_); clear hK K)
            | ((first | with_reducible refine ev_cons (fun K' hK' => ?_) | with_reducible refine ed_cons (fun K' hK' => ?_) | (with_reducible refine ev_id ?_; refine ev_guard rfl (fun K' hK' => ?_)) | (with_reducible refine ed_id ?_; refine ed_guard rfl (fun K' hK' => ?_))); simp [h7, h6, h4, h0, h3, h5, hlt, ints]; repeat' (first | (with_reducible refine hK' _ _ ?_; clear hK' K') | (with_reducible refine And.intro ?_ ?_) | (with_reducible intro hg) | (clear hK' K'; omega)))
            | (with_reducible refine w_cond (fun A B hA hB => ?_); simp [h7, h6, h4, h0, h3, h5, hlt, ints]; repeat' (first | (with_reducible refine hA ?_; clear hA hB A B) | (with_reducible refine hB ?_; clear hA hB A B) | (with_reducible refine And.intro ?_ ?_) | (with_reducible intro hc)))
            | (with_reducible refine awp_seq ?_))
          exact ⟨⟨n + 1, by omega, by simp [h4], by simp [h0], .inr ⟨r2, hr2, by rw [hst, ← hnx]; simp, by rw [hst, ← hnx]; simp⟩⟩, by simp [h4]; omega⟩
        | true =>
          rw [if_pos rfl, List.append_nil] at hnx
          repeat' (first
            | (with_reducible refine awp_skip ?_)
            | (with_reducible refine then_any ?_)
            | (with_reducible refine then_ret ?_)
            | (with_reducible refine then_exit ?_)
            | (with_reducible refine inBlock_normal ?_)
            | (with_reducible refine inBlock_ret ?_)
            | (with_reducible refine inBlock_hit ?_)
            | (with_reducible refine inBlock_miss (by decide) ?_)
            | (with_reducible refine awp_ret ?_)
            | (with_reducible refine awp_exit ?_)
            | (with_reducible refine post_ret ?_)
            | (with_reducible refine post_normal ?_)
            | (with_reducible refine awp_block ?_)
            | (with_reducible refine v_reg [] (fun K hK => ?_))
            | (with_reducible refine v_reg1 [] (fun K hK => ?_))
            | (with_reducible refine v_draw mixed [] [] (by kernel_rfl) (fun K hK => ?_))
            | (with_reducible refine v_draw1 mixed [] [] (by kernel_rfl) (fun K hK => ?_))
            | (with_reducible refine ev_nil (hK _ _ ?_); clear hK K)
            | (with_reducible refine ed_nil (hK _ _ ?_); clear hK K)
            | ((first | with_reducible refine ev_cons (fun K' hK' => ?_) | with_reducible refine ed_cons (fun K' hK' => ?_) | (with_reducible refine ev_id ?_; refine ev_guard rfl (fun K' hK' => ?_)) | (with_reducible refine ed_id ?_; refine ed_guard rfl (fun K' hK' => ?_))); simp [h7, h6, h4, h0, h3, h5, hlt, ints]; repeat' (first | (with_reducible refine hK' _ _ ?_; clear hK' K') | (with_reducible refine And.intro ?_ ?_) | (with_reducible intro hg) | (clear hK' K'; omega)))
            | (with_reducible refine w_cond (fun A B hA hB => ?_); simp [h7, h6, h4, h0, h3, h5, hlt, ints]; repeat' (first | (with_reducible refine hA ?_; clear hA hB A B) | (with_reducible refine hB ?_; clear hA hB A B) | (with_reducible refine And.intro ?_ ?_) | (with_reducible intro hc)))
            | (with_reducible refine awp_seq ?_))
          exact ⟨⟨n + 1, by omega, by simp [h4], by simp [h0], .inr ⟨r2, hr2, by rw [hst, ← hnx]; simp [h5], by rw [hst, ← hnx]⟩⟩, by simp [h4]; omega⟩
    all_goals exact ⟨⟨n + 1, by omega, by simp, by simp [h0], .inl ⟨by rw [hst, if_pos (by first | exact .inl (by omega) | exact .inr (.inl (by omega)) | exact .inr (.inr (by assumption)))]; simp [h3], rfl⟩⟩, by simp; omega⟩
  · have : n = l.length := by omega
    subst this
    rw [List.take_length] at hout
    repeat' (first
      | (with_reducible refine awp_skip ?_)
      | (with_reducible refine then_any ?_)
      | (with_reducible refine then_ret ?_)
      | (with_reducible refine then_exit ?_)
      | (with_reducible refine inBlock_normal ?_)
      | (with_reducible refine inBlock_ret ?_)
      | (with_reducible refine inBlock_hit ?_)
      | (with_reducible refine inBlock_miss (by decide) ?_)
      | (with_reducible refine awp_ret ?_)
      | (with_reducible refine awp_exit ?_)
      | (with_reducible refine post_ret ?_)
      | (with_reducible refine post_normal ?_)
      | (with_reducible refine awp_block ?_)
      | (with_reducible refine v_reg [] (fun K hK => ?_))
      | (with_reducible refine v_reg1 [] (fun K hK => ?_))
      | (with_reducible refine v_draw mixed [] [] (by kernel_rfl) (fun K hK => ?_))
      | (with_reducible refine v_draw1 mixed [] [] (by kernel_rfl) (fun K hK => ?_))
      | (with_reducible refine ev_nil (hK _ _ ?_); clear hK K)
      | (with_reducible refine ed_nil (hK _ _ ?_); clear hK K)
      | ((first | with_reducible refine ev_cons (fun K' hK' => ?_) | with_reducible refine ed_cons (fun K' hK' => ?_) | (with_reducible refine ev_id ?_; refine ev_guard rfl (fun K' hK' => ?_)) | (with_reducible refine ed_id ?_; refine ed_guard rfl (fun K' hK' => ?_))); simp [h4, h0, h3, ints]; repeat' (first | (with_reducible refine hK' _ _ ?_; clear hK' K') | (with_reducible refine And.intro ?_ ?_) | (with_reducible intro hg) | (clear hK' K'; omega)))
      | (with_reducible refine w_cond (fun A B hA hB => ?_); simp [h4, h0, h3, ints]; repeat' (first | (with_reducible refine hA ?_; clear hA hB A B) | (with_reducible refine hB ?_; clear hA hB A B) | (with_reducible refine And.intro ?_ ?_) | (with_reducible intro hc)))
      | (with_reducible refine awp_seq ?_))
    simp [hout]

/-- The reference's union. -/
def unionR (a b : List Int) : List Int := if risesB (-1) a && risesB (-1) b then sortR (a ++ b) else []

theorem union2_ret {a b : List Int} (hab : smLen (a ++ b)) : Ret Try.prog w0 37 [ints a, ints b] (ints (unionR a b)) := by
  intro H
  have hl : a.length + b.length ≤ 1099511627776 := by simpa using hab
  have ha' : okLen a := by omega
  have hb' : okLen b := by omega
  refine w_enter Try.func37 rfl Try.ntmps37 (ts := [4]) rfl (by simp) (by kernel_rfl) ?_
  repeat' (first
    | (with_reducible refine awp_skip ?_)
    | (with_reducible refine then_any ?_)
    | (with_reducible refine then_ret ?_)
    | (with_reducible refine then_exit ?_)
    | (with_reducible refine inBlock_normal ?_)
    | (with_reducible refine inBlock_ret ?_)
    | (with_reducible refine inBlock_hit ?_)
    | (with_reducible refine inBlock_miss (by decide) ?_)
    | (with_reducible refine awp_ret ?_)
    | (with_reducible refine awp_exit ?_)
    | (with_reducible refine post_ret ?_)
    | (with_reducible refine post_normal ?_)
    | (with_reducible refine awp_block ?_)
    | (with_reducible refine v_reg [13] (fun K hK => ?_))
    | (with_reducible refine v_reg1 [13] (fun K hK => ?_))
    | (with_reducible refine v_draw mixed [13] [] (by kernel_rfl) (fun K hK => ?_))
    | (with_reducible refine v_draw1 mixed [13] [] (by kernel_rfl) (fun K hK => ?_))
    | (with_reducible refine ev_nil (hK _ _ ?_); clear hK K)
    | (with_reducible refine ed_nil (hK _ _ ?_); clear hK K)
    | ((first | with_reducible refine ev_cons (fun K' hK' => ?_) | with_reducible refine ed_cons (fun K' hK' => ?_) | (with_reducible refine ev_id ?_; refine ev_guard rfl (fun K' hK' => ?_)) | (with_reducible refine ed_id ?_; refine ed_guard rfl (fun K' hK' => ?_))); simp [ints]; repeat' (first | (with_reducible refine hK' _ _ ?_; clear hK' K') | (with_reducible refine Ret.use (may2_ret ha') ?_; try simp [ints]) | (with_reducible refine Ret.use (may2_ret hb') ?_; try simp [ints]) | ((with_reducible refine acalls_frz1 ?_); try simp [ints]) | ((with_reducible refine Ret.use_eq (sort2_ret hab) (by simp [ints]) ?_); try simp [ints]) | (with_reducible refine And.intro ?_ ?_) | (with_reducible intro hg) | (clear hK' K'; omega)))
    | (with_reducible refine w_cond (fun A B hA hB => ?_); simp [ints]; repeat' (first | (with_reducible refine hA ?_; clear hA hB A B) | (with_reducible refine hB ?_; clear hA hB A B) | (with_reducible refine And.intro ?_ ?_) | (with_reducible intro hc)))
    | (with_reducible refine awp_seq ?_))
  · simp [unionR, hc]
  · rename_i hr
    simp [unionR, *, upd_none_self]
  · simp [unionR, hg]

#print axioms union2_ret
end Go.Am
