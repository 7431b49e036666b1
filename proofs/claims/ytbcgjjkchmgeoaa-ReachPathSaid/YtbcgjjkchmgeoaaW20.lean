/- Contracts: the calls that the document of layer 7 fixes. -/
import Derived.Test.YtbcgjjkchmgeoaaW19
import Derived.Test.YtbcgjjkchmgeoaaAm23
namespace Go.Am
open Go Go.Proofs
set_option linter.unusedVariables false
set_option linter.unusedSimpArgs false
variable {w0 : World}
attribute [local irreducible] AWP ACalls
attribute [local congr] acalls_congr

def adj7 : List (List Int) := [[1, 2], [3], [3], []]
theorem wks7 : Wks (.sl [.sl [I 1, I 2] 2, .sl [I 3] 1, .sl [I 3] 1, .sc (.slice none 0 0)] 4) (rows adj7) := by
  refine Wks.sl rfl fun i a b ha hb => ?_
  match i with
  | 0 | 1 | 2 => simp [adj7] at ha hb; subst ha hb; exact ⟨.refl _, rfl⟩
  | 3 => simp [adj7] at ha hb; subst ha hb; exact ⟨.nil, rfl⟩
  | i + 4 => simp at ha
theorem p1 : pathA adj7 [0] [3] = ([0, 1, 3], true) := by decide +kernel
theorem p2 : pathA adj7 [0, 2] [3] = ([2, 3], true) := by decide +kernel
theorem p3 : pathA adj7 [3] [0] = ([], false) := by decide +kernel
theorem p4 : pathA adj7 [1, 3] [1, 3] = ([1], true) := by decide +kernel
theorem p5 : fromL adj7 [1] = [1, 3] := by decide +kernel
theorem p6 : fromL adj7 [4] = [] := by decide +kernel
theorem p7 : mayG adj7 = true := by decide +kernel
theorem p8 : mayG [[1]] = false := by decide +kernel

theorem fixed7_ret : Ret Try.prog w0 38 [] (B true) := by
  intro H
  have ha : okLen adj7 := by decide
  have hi : ∀ p ∈ adj7, okLen p := by decide
  refine w_enter Try.func38 rfl Try.ntmps38 (ts := [0]) rfl (by simp) (by kernel_rfl) ?_
  repeat' (first
    | (with_reducible refine awp_skip ?_)
    | (with_reducible refine then_any ?_)
    | (with_reducible refine then_ret ?_)
    | (with_reducible refine then_exit ?_)
    | (with_reducible refine inBlock_normal ?_)
    | (with_reducible refine inBlock_ret ?_)
    | (with_reducible refine inBlock_hit ?_)
    | (with_reducible refine inBlock_miss (by decide) ?_)
    | (with_reducible refine awp_ret ?_)
    | (with_reducible refine awp_exit ?_)
    | (with_reducible refine post_ret ?_)
    | (with_reducible refine post_normal ?_)
    | (with_reducible refine awp_block ?_)
    | ((fail_if_success (with_reducible refine at_reg 2 ?_)); with_reducible refine v_reg [] (fun K hK => ?_))
    | (with_reducible refine v_reg1 [] (fun K hK => ?_))
    | ((fail_if_success (with_reducible refine at_reg 2 ?_)); with_reducible refine v_draw mixed [] [] (by kernel_rfl) (fun K hK => ?_))
    | (with_reducible refine v_draw1 mixed [] [] (by kernel_rfl) (fun K hK => ?_))
    | (with_reducible refine ev_nil (hK _ _ ?_); clear hK K)
    | (with_reducible refine ed_nil (hK _ _ ?_); clear hK K)
    | ((first | with_reducible refine ev_cons (fun K' hK' => ?_) | with_reducible refine ed_cons (fun K' hK' => ?_) | (with_reducible refine ev_id ?_; refine ev_guard rfl (fun K' hK' => ?_)) | (with_reducible refine ed_id ?_; refine ed_guard rfl (fun K' hK' => ?_))); simp; repeat' (first | (with_reducible refine hK' _ _ ?_; clear hK' K') | (with_reducible refine And.intro ?_ ?_) | (with_reducible intro hg) | (clear hK' K'; omega)))
    | (with_reducible refine w_cond (fun A B hA hB => ?_); simp; repeat' (first | (with_reducible refine hA ?_; clear hA hB A B) | (with_reducible refine hB ?_; clear hA hB A B) | (with_reducible refine And.intro ?_ ?_) | (with_reducible intro hc)))
    | ((fail_if_success (with_reducible refine at_reg 2 ?_)); with_reducible refine awp_seq ?_))
  refine awp_wks 1 (b := rows adj7) (by simpa using wks7) fun env he he2 => ?_
  clear he2
  have P : ∀ fr to, okLen fr → okLen to → Ret Try.prog w0 39 [rows adj7, ints fr, ints to] _ := fun fr to h1 h2 => path_reach_ret ha hi h1 h2
  have Fr : ∀ l, okLen l → Ret Try.prog w0 43 [rows adj7, ints l] _ := fun l h => from_ret ha hi h
  have Sm : ∀ a b, okLen a → okLen b → Ret Try.prog w0 28 [ints a, ints b] _ := fun a b h1 h2 => same_ret h1 h2
  repeat' (first
    | (with_reducible refine awp_skip ?_)
    | (with_reducible refine then_any ?_)
    | (with_reducible refine then_ret ?_)
    | (with_reducible refine then_exit ?_)
    | (with_reducible refine inBlock_normal ?_)
    | (with_reducible refine inBlock_ret ?_)
    | (with_reducible refine inBlock_hit ?_)
    | (with_reducible refine inBlock_miss (by decide) ?_)
    | (with_reducible refine awp_ret ?_)
    | (with_reducible refine awp_exit ?_)
    | (with_reducible refine post_ret ?_)
    | (with_reducible refine post_normal ?_)
    | (with_reducible refine awp_block ?_)
    | (with_reducible refine v_reg [] (fun K hK => ?_))
    | (with_reducible refine v_reg1 [] (fun K hK => ?_))
    | (with_reducible refine v_draw mixed [] [] (by kernel_rfl) (fun K hK => ?_))
    | (with_reducible refine v_draw1 mixed [] [] (by kernel_rfl) (fun K hK => ?_))
    | (with_reducible refine ev_nil (hK _ _ ?_); clear hK K)
    | (with_reducible refine ed_nil (hK _ _ ?_); clear hK K)
    | ((first | with_reducible refine ev_cons (fun K' hK' => ?_) | with_reducible refine ed_cons (fun K' hK' => ?_) | (with_reducible refine ev_id ?_; refine ev_guard rfl (fun K' hK' => ?_)) | (with_reducible refine ed_id ?_; refine ed_guard rfl (fun K' hK' => ?_))); simp [he, p1, p2, p3, p4, p5, p6, p7, p8]; repeat' (first | (with_reducible refine hK' _ _ ?_; clear hK' K') | ((with_reducible refine Ret.use_eq (P [0] [3] (by decide) (by decide)) ?_ ?_; (· simp [rows, ints])); try simp [he, p1, p2, p3, p4, p5, p6, p7, p8]) | ((with_reducible refine Ret.use_eq (P [0, 2] [3] (by decide) (by decide)) ?_ ?_; (· simp [rows, ints])); try simp [he, p1, p2, p3, p4, p5, p6, p7, p8]) | ((with_reducible refine Ret.use_eq (P [3] [0] (by decide) (by decide)) ?_ ?_; (· simp [rows, ints])); try simp [he, p1, p2, p3, p4, p5, p6, p7, p8]) | ((with_reducible refine Ret.use_eq (P [1, 3] [1, 3] (by decide) (by decide)) ?_ ?_; (· simp [rows, ints])); try simp [he, p1, p2, p3, p4, p5, p6, p7, p8]) | ((with_reducible refine Ret.use_eq (Fr [1] (by decide)) ?_ ?_; (· simp [rows, ints])); try simp [he, p1, p2, p3, p4, p5, p6, p7, p8]) | ((with_reducible refine Ret.use_eq (Fr [4] (by decide)) ?_ ?_; (· simp [rows, ints])); try simp [he, p1, p2, p3, p4, p5, p6, p7, p8]) | ((with_reducible refine Ret.use_eq (reachMay_ret ha hi) ?_ ?_; (· simp [rows])); try simp [he, p1, p2, p3, p4, p5, p6, p7, p8]) | ((with_reducible refine Ret.use_eq (reachMay_ret (adj := [[1]]) (by decide) (by decide)) ?_ ?_; (· simp [rows, ints])); try simp [he, p1, p2, p3, p4, p5, p6, p7, p8]) | ((with_reducible refine Ret.use_eq (Sm [0, 1, 3] [0, 1, 3] (by decide) (by decide)) ?_ ?_; (· simp [ints])); try simp [he, p1, p2, p3, p4, p5, p6, p7, p8]) | ((with_reducible refine Ret.use_eq (Sm [2, 3] [2, 3] (by decide) (by decide)) ?_ ?_; (· simp [ints])); try simp [he, p1, p2, p3, p4, p5, p6, p7, p8]) | ((with_reducible refine Ret.use_eq (Sm [1] [1] (by decide) (by decide)) ?_ ?_; (· simp [ints])); try simp [he, p1, p2, p3, p4, p5, p6, p7, p8]) | ((with_reducible refine Ret.use_eq (Sm [1, 3] [1, 3] (by decide) (by decide)) ?_ ?_; (· simp [ints])); try simp [he, p1, p2, p3, p4, p5, p6, p7, p8]) | (with_reducible refine And.intro ?_ ?_) | (with_reducible intro hg) | (clear hK' K'; omega)))
    | (with_reducible refine w_cond (fun A B hA hB => ?_); simp [he, p1, p2, p3, p4, p5, p6, p7, p8]; repeat' (first | (with_reducible refine hA ?_; clear hA hB A B) | (with_reducible refine hB ?_; clear hA hB A B) | (with_reducible refine And.intro ?_ ?_) | (with_reducible intro hc)))
    | (with_reducible refine awp_seq ?_))
  all_goals simp
#print axioms fixed7_ret
end Go.Am
