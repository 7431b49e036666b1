/- Contracts and plain laws that the law ArborShifts needs, part 12. -/
import Derived.Test.YtkgcmgbndapjcaaZArborShifts11
namespace Go.Am
open Go Go.Proofs
set_option linter.unusedVariables false
set_option linter.unusedSimpArgs false
variable {w0 : World}
attribute [local irreducible] AWP ACalls
attribute [local congr] acalls_congr
def shC (arcs : List (Int × Int)) (cost : List Int) (v more : Int) (k : Nat) : List Int := (upto k).map fun i => costF cost i + if hdA arcs i = v then more else 0
theorem shC_length (arcs : List (Int × Int)) (cost : List Int) (v more : Int) (k : Nat) : (shC arcs cost v more k).length = k := by simp [shC]
theorem shC_succ (arcs : List (Int × Int)) (cost : List Int) (v more : Int) (k : Nat) : shC arcs cost v more (k + 1) = shC arcs cost v more k ++ [costF cost k + if hdA arcs k = v then more else 0] := by simp [shC, upto_succ]
theorem shC_at {arcs : List (Int × Int)} {cost : List Int} {v more i : Int} {k : Nat} (h0 : 0 ≤ i) (h1 : i < k) : costF (shC arcs cost v more k) i = costF cost i + if hdA arcs i = v then more else 0 := by
  have hi : i.toNat < (upto k).length := by simp; omega
  rw [costF, shC, List.getD_eq_getElem?_getD, List.getElem?_map, List.getElem?_eq_getElem hi, upto_get, show ((i.toNat : Nat) : Int) = i by omega]
  rfl
theorem mayC_sh {n root v more : Int} {arcs : List (Int × Int)} {cost : List Int} (h : mayC n arcs cost root = true) (hb : ∀ i : Int, 0 ≤ i → i < cost.length → -1073741824 ≤ costF cost i ∧ costF cost i ≤ 1073741824) (hm : -1000000 ≤ more ∧ more ≤ 1000000) : mayC n arcs (shC arcs cost v more cost.length) root = true := by
  simp only [mayC, Bool.and_eq_true, decide_eq_true_eq, shC_length, List.all_eq_true] at h ⊢
  refine ⟨h.1, fun x hx => ?_⟩
  obtain ⟨i, hi, rfl⟩ := List.mem_map.1 hx
  obtain ⟨a, b⟩ := mem_upto.1 hi
  have := hb i a b
  simp only [costOk, Bool.and_eq_true, decide_eq_true_eq]
  split <;> omega
theorem mayC_tail {n root : Int} {a : Int × Int} {arcs : List (Int × Int)} {c : Int} {cost : List Int} (h : mayC n (a :: arcs) (c :: cost) root = true) : mayC n arcs cost root = true := by
  simp only [mayC, mayA, Bool.and_eq_true, decide_eq_true_eq, List.all_cons, List.length_cons] at h ⊢
  obtain ⟨⟨⟨⟨⟨⟨⟨a1, a2⟩, a3⟩, a4⟩, a5⟩, a6⟩, a7⟩, a8⟩ := h
  exact ⟨⟨⟨⟨⟨⟨⟨a1, a2⟩, by omega⟩, a4⟩, a5⟩, a6.2⟩, by omega⟩, a8.2⟩
set_option maxRecDepth 20000 in
set_option maxHeartbeats 4000000 in
theorem arborShifts_ret {n root v more : Int} {arcs : List (Int × Int)} {cost : List Int} (ha : okLen arcs) (hc : okLen cost) : Ret Try.prog w0 10 [.agg [I n, pairs arcs, ints cost, I root], I v, I more] (B true) := by
  intro H
  have c0 := may19_ret (w0 := w0) (n := n) (root := root) ha hc
  simp only [pairs, ints] at c0
  refine w_enter Try.func10 rfl Try.ntmps10 (ts := [6]) rfl (by simp) (by kernel_rfl) ?_
  by_cases g1 : 8 < n
  · repeat' (first
      | (with_reducible refine awp_skip ?_)
      | (with_reducible refine then_any ?_)
      | (with_reducible refine then_ret ?_)
      | (with_reducible refine then_exit ?_)
      | (with_reducible refine inBlock_normal ?_)
      | (with_reducible refine inBlock_ret ?_)
      | (with_reducible refine inBlock_hit ?_)
      | (with_reducible refine inBlock_miss (by decide) ?_)
      | (with_reducible refine awp_ret ?_)
      | (with_reducible refine awp_exit ?_)
      | (with_reducible refine post_ret ?_)
      | (with_reducible refine post_normal ?_)
      | (with_reducible refine awp_block ?_)
      | (with_reducible refine awp_scope_ret ?_)
      | (with_reducible refine awp_label ?_)
      | (with_reducible refine v_reg [] (fun K hK => ?_))
      | (with_reducible refine v_reg1 [] (fun K hK => ?_))
      | (with_reducible refine v_draw mixed [] [] (by kernel_rfl) (fun K hK => ?_))
      | (with_reducible refine v_draw1 mixed [] [] (by kernel_rfl) (fun K hK => ?_))
      | (with_reducible refine ev_nil (hK _ _ ?_); clear hK K)
      | (with_reducible refine ed_nil (hK _ _ ?_); clear hK K)
      | ((first | with_reducible refine ev_cons (fun K' hK' => ?_) | with_reducible refine ed_cons (fun K' hK' => ?_) | (with_reducible refine ev_id ?_; refine ev_guard rfl (fun K' hK' => ?_)) | (with_reducible refine ed_id ?_; refine ed_guard rfl (fun K' hK' => ?_))); simp [pairs, ints, g1]; repeat' (first | (with_reducible refine hK' _ _ ?_; clear hK' K') | (with_reducible refine Ret.use fixed19_ret ?_; try simp [pairs, ints, g1]) | (with_reducible refine And.intro ?_ ?_) | (with_reducible intro hg) | (clear hK' K'; omega)))
      | (with_reducible refine w_cond (fun A B hA hB => ?_); simp [pairs, ints, g1]; repeat' (first | (with_reducible refine hA ?_; clear hA hB A B) | (with_reducible refine hB ?_; clear hA hB A B) | (with_reducible refine And.intro ?_ ?_) | (with_reducible intro hc)))
      | (with_reducible refine awp_seq ?_))
    exact ⟨by simp, sub_new (by assumption)⟩
  by_cases g0 : (arcs.length : Int) < 1
  · repeat' (first
      | (with_reducible refine awp_skip ?_)
      | (with_reducible refine then_any ?_)
      | (with_reducible refine then_ret ?_)
      | (with_reducible refine then_exit ?_)
      | (with_reducible refine inBlock_normal ?_)
      | (with_reducible refine inBlock_ret ?_)
      | (with_reducible refine inBlock_hit ?_)
      | (with_reducible refine inBlock_miss (by decide) ?_)
      | (with_reducible refine awp_ret ?_)
      | (with_reducible refine awp_exit ?_)
      | (with_reducible refine post_ret ?_)
      | (with_reducible refine post_normal ?_)
      | (with_reducible refine awp_block ?_)
      | (with_reducible refine awp_scope_ret ?_)
      | (with_reducible refine awp_label ?_)
      | (with_reducible refine v_reg [] (fun K hK => ?_))
      | (with_reducible refine v_reg1 [] (fun K hK => ?_))
      | (with_reducible refine v_draw mixed [] [] (by kernel_rfl) (fun K hK => ?_))
      | (with_reducible refine v_draw1 mixed [] [] (by kernel_rfl) (fun K hK => ?_))
      | (with_reducible refine ev_nil (hK _ _ ?_); clear hK K)
      | (with_reducible refine ed_nil (hK _ _ ?_); clear hK K)
      | ((first | with_reducible refine ev_cons (fun K' hK' => ?_) | with_reducible refine ed_cons (fun K' hK' => ?_) | (with_reducible refine ev_id ?_; refine ev_guard rfl (fun K' hK' => ?_)) | (with_reducible refine ed_id ?_; refine ed_guard rfl (fun K' hK' => ?_))); simp [pairs, ints, g1, g0]; repeat' (first | (with_reducible refine hK' _ _ ?_; clear hK' K') | (with_reducible refine Ret.use fixed19_ret ?_; try simp [pairs, ints, g1, g0]) | (with_reducible refine And.intro ?_ ?_) | (with_reducible intro hg) | (clear hK' K'; omega)))
      | (with_reducible refine w_cond (fun A B hA hB => ?_); simp [pairs, ints, g1, g0]; repeat' (first | (with_reducible refine hA ?_; clear hA hB A B) | (with_reducible refine hB ?_; clear hA hB A B) | (with_reducible refine And.intro ?_ ?_) | (with_reducible intro hc)))
      | (with_reducible refine awp_seq ?_))
    exact ⟨by simp, sub_new (by assumption)⟩
  by_cases g2 : (15 : Int) < arcs.length
  · repeat' (first
      | (with_reducible refine awp_skip ?_)
      | (with_reducible refine then_any ?_)
      | (with_reducible refine then_ret ?_)
      | (with_reducible refine then_exit ?_)
      | (with_reducible refine inBlock_normal ?_)
      | (with_reducible refine inBlock_ret ?_)
      | (with_reducible refine inBlock_hit ?_)
      | (with_reducible refine inBlock_miss (by decide) ?_)
      | (with_reducible refine awp_ret ?_)
      | (with_reducible refine awp_exit ?_)
      | (with_reducible refine post_ret ?_)
      | (with_reducible refine post_normal ?_)
      | (with_reducible refine awp_block ?_)
      | (with_reducible refine awp_scope_ret ?_)
      | (with_reducible refine awp_label ?_)
      | (with_reducible refine v_reg [] (fun K hK => ?_))
      | (with_reducible refine v_reg1 [] (fun K hK => ?_))
      | (with_reducible refine v_draw mixed [] [] (by kernel_rfl) (fun K hK => ?_))
      | (with_reducible refine v_draw1 mixed [] [] (by kernel_rfl) (fun K hK => ?_))
      | (with_reducible refine ev_nil (hK _ _ ?_); clear hK K)
      | (with_reducible refine ed_nil (hK _ _ ?_); clear hK K)
      | ((first | with_reducible refine ev_cons (fun K' hK' => ?_) | with_reducible refine ed_cons (fun K' hK' => ?_) | (with_reducible refine ev_id ?_; refine ev_guard rfl (fun K' hK' => ?_)) | (with_reducible refine ed_id ?_; refine ed_guard rfl (fun K' hK' => ?_))); simp [pairs, ints, g1, g0, g2]; repeat' (first | (with_reducible refine hK' _ _ ?_; clear hK' K') | (with_reducible refine Ret.use fixed19_ret ?_; try simp [pairs, ints, g1, g0, g2]) | (with_reducible refine And.intro ?_ ?_) | (with_reducible intro hg) | (clear hK' K'; omega)))
      | (with_reducible refine w_cond (fun A B hA hB => ?_); simp [pairs, ints, g1, g0, g2]; repeat' (first | (with_reducible refine hA ?_; clear hA hB A B) | (with_reducible refine hB ?_; clear hA hB A B) | (with_reducible refine And.intro ?_ ?_) | (with_reducible intro hc)))
      | (with_reducible refine awp_seq ?_))
    exact ⟨by simp, sub_new (by assumption)⟩
  cases g3 : mayC n arcs cost root with
  | false =>
    rw [g3] at c0
    repeat' (first
      | (with_reducible refine awp_skip ?_)
      | (with_reducible refine then_any ?_)
      | (with_reducible refine then_ret ?_)
      | (with_reducible refine then_exit ?_)
      | (with_reducible refine inBlock_normal ?_)
      | (with_reducible refine inBlock_ret ?_)
      | (with_reducible refine inBlock_hit ?_)
      | (with_reducible refine inBlock_miss (by decide) ?_)
      | (with_reducible refine awp_ret ?_)
      | (with_reducible refine awp_exit ?_)
      | (with_reducible refine post_ret ?_)
      | (with_reducible refine post_normal ?_)
      | (with_reducible refine awp_block ?_)
      | (with_reducible refine awp_scope_ret ?_)
      | (with_reducible refine awp_label ?_)
      | (with_reducible refine v_reg [] (fun K hK => ?_))
      | (with_reducible refine v_reg1 [] (fun K hK => ?_))
      | (with_reducible refine v_draw mixed [] [] (by kernel_rfl) (fun K hK => ?_))
      | (with_reducible refine v_draw1 mixed [] [] (by kernel_rfl) (fun K hK => ?_))
      | (with_reducible refine ev_nil (hK _ _ ?_); clear hK K)
      | (with_reducible refine ed_nil (hK _ _ ?_); clear hK K)
      | ((first | with_reducible refine ev_cons (fun K' hK' => ?_) | with_reducible refine ed_cons (fun K' hK' => ?_) | (with_reducible refine ev_id ?_; refine ev_guard rfl (fun K' hK' => ?_)) | (with_reducible refine ed_id ?_; refine ed_guard rfl (fun K' hK' => ?_))); simp [pairs, ints, g1, g0, g2]; repeat' (first | (with_reducible refine hK' _ _ ?_; clear hK' K') | (with_reducible refine Ret.use fixed19_ret ?_; try simp [pairs, ints, g1, g0, g2]) | (with_reducible refine Ret.use c0 ?_; try simp [pairs, ints, g1, g0, g2]) | (with_reducible refine And.intro ?_ ?_) | (with_reducible intro hg) | (clear hK' K'; omega)))
      | (with_reducible refine w_cond (fun A B hA hB => ?_); simp [pairs, ints, g1, g0, g2]; repeat' (first | (with_reducible refine hA ?_; clear hA hB A B) | (with_reducible refine hB ?_; clear hA hB A B) | (with_reducible refine And.intro ?_ ?_) | (with_reducible intro hc)))
      | (with_reducible refine awp_seq ?_))
    exact ⟨by simp, sub_new (by assumption)⟩
  | true =>
  rw [g3] at c0
  by_cases v0 : v < 0
  · repeat' (first
      | (with_reducible refine awp_skip ?_)
      | (with_reducible refine then_any ?_)
      | (with_reducible refine then_ret ?_)
      | (with_reducible refine then_exit ?_)
      | (with_reducible refine inBlock_normal ?_)
      | (with_reducible refine inBlock_ret ?_)
      | (with_reducible refine inBlock_hit ?_)
      | (with_reducible refine inBlock_miss (by decide) ?_)
      | (with_reducible refine awp_ret ?_)
      | (with_reducible refine awp_exit ?_)
      | (with_reducible refine post_ret ?_)
      | (with_reducible refine post_normal ?_)
      | (with_reducible refine awp_block ?_)
      | (with_reducible refine awp_scope_ret ?_)
      | (with_reducible refine awp_label ?_)
      | (with_reducible refine v_reg [] (fun K hK => ?_))
      | (with_reducible refine v_reg1 [] (fun K hK => ?_))
      | (with_reducible refine v_draw mixed [] [] (by kernel_rfl) (fun K hK => ?_))
      | (with_reducible refine v_draw1 mixed [] [] (by kernel_rfl) (fun K hK => ?_))
      | (with_reducible refine ev_nil (hK _ _ ?_); clear hK K)
      | (with_reducible refine ed_nil (hK _ _ ?_); clear hK K)
      | ((first | with_reducible refine ev_cons (fun K' hK' => ?_) | with_reducible refine ed_cons (fun K' hK' => ?_) | (with_reducible refine ev_id ?_; refine ev_guard rfl (fun K' hK' => ?_)) | (with_reducible refine ed_id ?_; refine ed_guard rfl (fun K' hK' => ?_))); simp [pairs, ints, g1, g0, g2, v0]; repeat' (first | (with_reducible refine hK' _ _ ?_; clear hK' K') | (with_reducible refine Ret.use fixed19_ret ?_; try simp [pairs, ints, g1, g0, g2, v0]) | (with_reducible refine Ret.use c0 ?_; try simp [pairs, ints, g1, g0, g2, v0]) | (with_reducible refine And.intro ?_ ?_) | (with_reducible intro hg) | (clear hK' K'; omega)))
      | (with_reducible refine w_cond (fun A B hA hB => ?_); simp [pairs, ints, g1, g0, g2, v0]; repeat' (first | (with_reducible refine hA ?_; clear hA hB A B) | (with_reducible refine hB ?_; clear hA hB A B) | (with_reducible refine And.intro ?_ ?_) | (with_reducible intro hc)))
      | (with_reducible refine awp_seq ?_))
    exact ⟨by simp, sub_new (by assumption)⟩
  by_cases v1 : n ≤ v
  · repeat' (first
      | (with_reducible refine awp_skip ?_)
      | (with_reducible refine then_any ?_)
      | (with_reducible refine then_ret ?_)
      | (with_reducible refine then_exit ?_)
      | (with_reducible refine inBlock_normal ?_)
      | (with_reducible refine inBlock_ret ?_)
      | (with_reducible refine inBlock_hit ?_)
      | (with_reducible refine inBlock_miss (by decide) ?_)
      | (with_reducible refine awp_ret ?_)
      | (with_reducible refine awp_exit ?_)
      | (with_reducible refine post_ret ?_)
      | (with_reducible refine post_normal ?_)
      | (with_reducible refine awp_block ?_)
      | (with_reducible refine awp_scope_ret ?_)
      | (with_reducible refine awp_label ?_)
      | (with_reducible refine v_reg [] (fun K hK => ?_))
      | (with_reducible refine v_reg1 [] (fun K hK => ?_))
      | (with_reducible refine v_draw mixed [] [] (by kernel_rfl) (fun K hK => ?_))
      | (with_reducible refine v_draw1 mixed [] [] (by kernel_rfl) (fun K hK => ?_))
      | (with_reducible refine ev_nil (hK _ _ ?_); clear hK K)
      | (with_reducible refine ed_nil (hK _ _ ?_); clear hK K)
      | ((first | with_reducible refine ev_cons (fun K' hK' => ?_) | with_reducible refine ed_cons (fun K' hK' => ?_) | (with_reducible refine ev_id ?_; refine ev_guard rfl (fun K' hK' => ?_)) | (with_reducible refine ed_id ?_; refine ed_guard rfl (fun K' hK' => ?_))); simp [pairs, ints, g1, g0, g2, v0, v1]; repeat' (first | (with_reducible refine hK' _ _ ?_; clear hK' K') | (with_reducible refine Ret.use fixed19_ret ?_; try simp [pairs, ints, g1, g0, g2, v0, v1]) | (with_reducible refine Ret.use c0 ?_; try simp [pairs, ints, g1, g0, g2, v0, v1]) | (with_reducible refine And.intro ?_ ?_) | (with_reducible intro hg) | (clear hK' K'; omega)))
      | (with_reducible refine w_cond (fun A B hA hB => ?_); simp [pairs, ints, g1, g0, g2, v0, v1]; repeat' (first | (with_reducible refine hA ?_; clear hA hB A B) | (with_reducible refine hB ?_; clear hA hB A B) | (with_reducible refine And.intro ?_ ?_) | (with_reducible intro hc)))
      | (with_reducible refine awp_seq ?_))
    exact ⟨by simp, sub_new (by assumption)⟩
  by_cases v2 : v = root
  · repeat' (first
      | (with_reducible refine awp_skip ?_)
      | (with_reducible refine then_any ?_)
      | (with_reducible refine then_ret ?_)
      | (with_reducible refine then_exit ?_)
      | (with_reducible refine inBlock_normal ?_)
      | (with_reducible refine inBlock_ret ?_)
      | (with_reducible refine inBlock_hit ?_)
      | (with_reducible refine inBlock_miss (by decide) ?_)
      | (with_reducible refine awp_ret ?_)
      | (with_reducible refine awp_exit ?_)
      | (with_reducible refine post_ret ?_)
      | (with_reducible refine post_normal ?_)
      | (with_reducible refine awp_block ?_)
      | (with_reducible refine awp_scope_ret ?_)
      | (with_reducible refine awp_label ?_)
      | (with_reducible refine v_reg [] (fun K hK => ?_))
      | (with_reducible refine v_reg1 [] (fun K hK => ?_))
      | (with_reducible refine v_draw mixed [] [] (by kernel_rfl) (fun K hK => ?_))
      | (with_reducible refine v_draw1 mixed [] [] (by kernel_rfl) (fun K hK => ?_))
      | (with_reducible refine ev_nil (hK _ _ ?_); clear hK K)
      | (with_reducible refine ed_nil (hK _ _ ?_); clear hK K)
      | ((first | with_reducible refine ev_cons (fun K' hK' => ?_) | with_reducible refine ed_cons (fun K' hK' => ?_) | (with_reducible refine ev_id ?_; refine ev_guard rfl (fun K' hK' => ?_)) | (with_reducible refine ed_id ?_; refine ed_guard rfl (fun K' hK' => ?_))); simp [pairs, ints, g1, g0, g2, v0, v1, v2]; repeat' (first | (with_reducible refine hK' _ _ ?_; clear hK' K') | (with_reducible refine Ret.use fixed19_ret ?_; try simp [pairs, ints, g1, g0, g2, v0, v1, v2]) | (with_reducible refine Ret.use c0 ?_; try simp [pairs, ints, g1, g0, g2, v0, v1, v2]) | (with_reducible refine And.intro ?_ ?_) | (with_reducible intro hg) | (clear hK' K'; omega)))
      | (with_reducible refine w_cond (fun A B hA hB => ?_); simp [pairs, ints, g1, g0, g2, v0, v1, v2]; repeat' (first | (with_reducible refine hA ?_; clear hA hB A B) | (with_reducible refine hB ?_; clear hA hB A B) | (with_reducible refine And.intro ?_ ?_) | (with_reducible intro hc)))
      | (with_reducible refine awp_seq ?_))
    all_goals exact ⟨by simp, sub_new (by assumption)⟩
  by_cases g4 : more < -1000000
  · repeat' (first
      | (with_reducible refine awp_skip ?_)
      | (with_reducible refine then_any ?_)
      | (with_reducible refine then_ret ?_)
      | (with_reducible refine then_exit ?_)
      | (with_reducible refine inBlock_normal ?_)
      | (with_reducible refine inBlock_ret ?_)
      | (with_reducible refine inBlock_hit ?_)
      | (with_reducible refine inBlock_miss (by decide) ?_)
      | (with_reducible refine awp_ret ?_)
      | (with_reducible refine awp_exit ?_)
      | (with_reducible refine post_ret ?_)
      | (with_reducible refine post_normal ?_)
      | (with_reducible refine awp_block ?_)
      | (with_reducible refine awp_scope_ret ?_)
      | (with_reducible refine awp_label ?_)
      | (with_reducible refine v_reg [] (fun K hK => ?_))
      | (with_reducible refine v_reg1 [] (fun K hK => ?_))
      | (with_reducible refine v_draw mixed [] [] (by kernel_rfl) (fun K hK => ?_))
      | (with_reducible refine v_draw1 mixed [] [] (by kernel_rfl) (fun K hK => ?_))
      | (with_reducible refine ev_nil (hK _ _ ?_); clear hK K)
      | (with_reducible refine ed_nil (hK _ _ ?_); clear hK K)
      | ((first | with_reducible refine ev_cons (fun K' hK' => ?_) | with_reducible refine ed_cons (fun K' hK' => ?_) | (with_reducible refine ev_id ?_; refine ev_guard rfl (fun K' hK' => ?_)) | (with_reducible refine ed_id ?_; refine ed_guard rfl (fun K' hK' => ?_))); simp [pairs, ints, g1, g0, g2, v0, v1, v2, g4]; repeat' (first | (with_reducible refine hK' _ _ ?_; clear hK' K') | (with_reducible refine Ret.use fixed19_ret ?_; try simp [pairs, ints, g1, g0, g2, v0, v1, v2, g4]) | (with_reducible refine Ret.use c0 ?_; try simp [pairs, ints, g1, g0, g2, v0, v1, v2, g4]) | (with_reducible refine And.intro ?_ ?_) | (with_reducible intro hg) | (clear hK' K'; omega)))
      | (with_reducible refine w_cond (fun A B hA hB => ?_); simp [pairs, ints, g1, g0, g2, v0, v1, v2, g4]; repeat' (first | (with_reducible refine hA ?_; clear hA hB A B) | (with_reducible refine hB ?_; clear hA hB A B) | (with_reducible refine And.intro ?_ ?_) | (with_reducible intro hc)))
      | (with_reducible refine awp_seq ?_))
    exact ⟨by simp, sub_new (by assumption)⟩
  by_cases g5 : 1000000 < more
  · repeat' (first
      | (with_reducible refine awp_skip ?_)
      | (with_reducible refine then_any ?_)
      | (with_reducible refine then_ret ?_)
      | (with_reducible refine then_exit ?_)
      | (with_reducible refine inBlock_normal ?_)
      | (with_reducible refine inBlock_ret ?_)
      | (with_reducible refine inBlock_hit ?_)
      | (with_reducible refine inBlock_miss (by decide) ?_)
      | (with_reducible refine awp_ret ?_)
      | (with_reducible refine awp_exit ?_)
      | (with_reducible refine post_ret ?_)
      | (with_reducible refine post_normal ?_)
      | (with_reducible refine awp_block ?_)
      | (with_reducible refine awp_scope_ret ?_)
      | (with_reducible refine awp_label ?_)
      | (with_reducible refine v_reg [] (fun K hK => ?_))
      | (with_reducible refine v_reg1 [] (fun K hK => ?_))
      | (with_reducible refine v_draw mixed [] [] (by kernel_rfl) (fun K hK => ?_))
      | (with_reducible refine v_draw1 mixed [] [] (by kernel_rfl) (fun K hK => ?_))
      | (with_reducible refine ev_nil (hK _ _ ?_); clear hK K)
      | (with_reducible refine ed_nil (hK _ _ ?_); clear hK K)
      | ((first | with_reducible refine ev_cons (fun K' hK' => ?_) | with_reducible refine ed_cons (fun K' hK' => ?_) | (with_reducible refine ev_id ?_; refine ev_guard rfl (fun K' hK' => ?_)) | (with_reducible refine ed_id ?_; refine ed_guard rfl (fun K' hK' => ?_))); simp [pairs, ints, g1, g0, g2, v0, v1, v2, g4, g5]; repeat' (first | (with_reducible refine hK' _ _ ?_; clear hK' K') | (with_reducible refine Ret.use fixed19_ret ?_; try simp [pairs, ints, g1, g0, g2, v0, v1, v2, g4, g5]) | (with_reducible refine Ret.use c0 ?_; try simp [pairs, ints, g1, g0, g2, v0, v1, v2, g4, g5]) | (with_reducible refine And.intro ?_ ?_) | (with_reducible intro hg) | (clear hK' K'; omega)))
      | (with_reducible refine w_cond (fun A B hA hB => ?_); simp [pairs, ints, g1, g0, g2, v0, v1, v2, g4, g5]; repeat' (first | (with_reducible refine hA ?_; clear hA hB A B) | (with_reducible refine hB ?_; clear hA hB A B) | (with_reducible refine And.intro ?_ ?_) | (with_reducible intro hc)))
      | (with_reducible refine awp_seq ?_))
    exact ⟨by simp, sub_new (by assumption)⟩
  obtain ⟨m, rfl, hm1, N, hcl, hcb⟩ := mayC_net g3
  have hal : arcs.length ≤ 15 := by omega
  repeat' (first
    | (with_reducible refine awp_skip ?_)
    | (with_reducible refine then_any ?_)
    | (with_reducible refine then_ret ?_)
    | (with_reducible refine then_exit ?_)
    | (with_reducible refine inBlock_normal ?_)
    | (with_reducible refine inBlock_ret ?_)
    | (with_reducible refine inBlock_hit ?_)
    | (with_reducible refine inBlock_miss (by decide) ?_)
    | (with_reducible refine awp_ret ?_)
    | (with_reducible refine awp_exit ?_)
    | (with_reducible refine post_ret ?_)
    | (with_reducible refine post_normal ?_)
    | (with_reducible refine awp_block ?_)
    | (with_reducible refine awp_scope_ret ?_)
    | (with_reducible refine awp_label ?_)
    | (with_reducible refine v_reg [76] (fun K hK => ?_))
    | (with_reducible refine v_reg1 [76] (fun K hK => ?_))
    | (with_reducible refine v_draw mixed [76] [] (by kernel_rfl) (fun K hK => ?_))
    | (with_reducible refine v_draw1 mixed [76] [] (by kernel_rfl) (fun K hK => ?_))
    | (with_reducible refine ev_nil (hK _ _ ?_); clear hK K)
    | (with_reducible refine ed_nil (hK _ _ ?_); clear hK K)
    | ((first | with_reducible refine ev_cons (fun K' hK' => ?_) | with_reducible refine ed_cons (fun K' hK' => ?_) | (with_reducible refine ev_id ?_; refine ev_guard rfl (fun K' hK' => ?_)) | (with_reducible refine ed_id ?_; refine ed_guard rfl (fun K' hK' => ?_))); simp [pairs, ints, g1, g0, g2, v0, v1, v2, g4, g5]; repeat' (first | (with_reducible refine hK' _ _ ?_; clear hK' K') | (with_reducible refine Ret.use fixed19_ret ?_; try simp [pairs, ints, g1, g0, g2, v0, v1, v2, g4, g5]) | (with_reducible refine Ret.use c0 ?_; try simp [pairs, ints, g1, g0, g2, v0, v1, v2, g4, g5]) | (with_reducible refine And.intro ?_ ?_) | (with_reducible intro hg) | (clear hK' K'; omega)))
    | (with_reducible refine w_cond (fun A B hA hB => ?_); simp [pairs, ints, g1, g0, g2, v0, v1, v2, g4, g5]; repeat' (first | (with_reducible refine hA ?_; clear hA hB A B) | (with_reducible refine hB ?_; clear hA hB A B) | (with_reducible refine And.intro ?_ ?_) | (with_reducible intro hc)))
    | (with_reducible refine awp_seq ?_))
  rename_i x hx r
  have hrx : r ≠ x := by rintro rfl; simp at hg
  have hxr : x ≠ r := Ne.symm hrx
  have hrn : H r = none := by rw [if_neg hrx] at hg; exact hg
  clear hg
  obtain ⟨H1, hH1⟩ : ∃ H1, H1 = upd H x (some (.box [I m, pairs arcs, ints cost, I root])) := ⟨_, rfl⟩
  have hsub : Sub H H1 := by rw [hH1]; exact sub_new hx
  have hx1 : H1 x = some (.box [I m, pairs arcs, ints cost, I root]) := by rw [hH1, upd_same]
  have hr1 : H1 r = none := by rw [hH1, upd_ne _ _ _ hrx]; exact hrn
  refine awp_loop (fun env h => ∃ k : Nat, k ≤ cost.length ∧ (∀ i : Int, 0 ≤ i → i < k → -1073741824 ≤ costF cost i ∧ costF cost i ≤ 1073741824) ∧ env 8 = I k ∧ env 1 = I v ∧ env 2 = I more ∧ env 3 = .ptr x 0 0 ∧ env 7 = .ref r 0 k k ∧
      h = upd H1 r (some (.arr 1 3 ((shC arcs cost v more k).map I) k))) (fun env _ => cost.length - natA (env 8)) ?_ ?_
  · exact ⟨0, by omega, fun i a b => by omega, by simp, by simp, by simp, by simp, by simp, by rw [hH1]; simp [pairs, ints, shC, upto_zero]⟩
  clear hH1 hx hrn
  rintro env h ⟨k, hk, hb, h8, h1, h2, h3, h7, rfl⟩
  have hnat : natA (env 8) = k := by simp [h8]
  rw [hnat]; clear hnat
  simp only [pairs, ints] at hx1
  by_cases hlt : k < cost.length
  · have hka : k < arcs.length := by omega
    have hp := pairs_at hka
    rw [tlA_get hka, hdA_get hka] at hp
    have hcg : ∀ h : k < cost.length, cost[k]'h = costF cost k := fun h => by simp [costF, h]
    have hss := shC_succ arcs cost v more k
    have hsl := shC_length arcs cost v more k
    have hck := hcb k (by omega) (by omega)
    generalize hy : costF cost k = y at *
    by_cases b1 : y < -1073741824
    · repeat' (first
        | (with_reducible refine awp_skip ?_)
        | (with_reducible refine then_any ?_)
        | (with_reducible refine then_ret ?_)
        | (with_reducible refine then_exit ?_)
        | (with_reducible refine inBlock_normal ?_)
        | (with_reducible refine inBlock_ret ?_)
        | (with_reducible refine inBlock_hit ?_)
        | (with_reducible refine inBlock_miss (by decide) ?_)
        | (with_reducible refine awp_ret ?_)
        | (with_reducible refine awp_exit ?_)
        | (with_reducible refine post_ret ?_)
        | (with_reducible refine post_normal ?_)
        | (with_reducible refine awp_block ?_)
        | (with_reducible refine awp_scope_ret ?_)
        | (with_reducible refine awp_label ?_)
        | (with_reducible refine v_reg [] (fun K hK => ?_))
        | (with_reducible refine v_reg1 [] (fun K hK => ?_))
        | (with_reducible refine v_draw mixed [] [] (by kernel_rfl) (fun K hK => ?_))
        | (with_reducible refine v_draw1 mixed [] [] (by kernel_rfl) (fun K hK => ?_))
        | (with_reducible refine ev_nil (hK _ _ ?_); clear hK K)
        | (with_reducible refine ed_nil (hK _ _ ?_); clear hK K)
        | ((first | with_reducible refine ev_cons (fun K' hK' => ?_) | with_reducible refine ed_cons (fun K' hK' => ?_) | (with_reducible refine ev_id ?_; refine ev_guard rfl (fun K' hK' => ?_)) | (with_reducible refine ed_id ?_; refine ed_guard rfl (fun K' hK' => ?_))); simp [h8, h1, h2, h3, h7, hx1, hxr, hrx, hlt, hcg, b1]; repeat' (first | (with_reducible refine hK' _ _ ?_; clear hK' K') | (with_reducible refine And.intro ?_ ?_) | (with_reducible intro hg) | (clear hK' K'; omega)))
        | (with_reducible refine w_cond (fun A B hA hB => ?_); simp [h8, h1, h2, h3, h7, hx1, hxr, hrx, hlt, hcg, b1]; repeat' (first | (with_reducible refine hA ?_; clear hA hB A B) | (with_reducible refine hB ?_; clear hA hB A B) | (with_reducible refine And.intro ?_ ?_) | (with_reducible intro hc)))
        | (with_reducible refine awp_seq ?_))
      exact ⟨by simp, hsub.upd (sub_free hsub hr1) _⟩
    by_cases b2 : 1073741824 < y
    · repeat' (first
        | (with_reducible refine awp_skip ?_)
        | (with_reducible refine then_any ?_)
        | (with_reducible refine then_ret ?_)
        | (with_reducible refine then_exit ?_)
        | (with_reducible refine inBlock_normal ?_)
        | (with_reducible refine inBlock_ret ?_)
        | (with_reducible refine inBlock_hit ?_)
        | (with_reducible refine inBlock_miss (by decide) ?_)
        | (with_reducible refine awp_ret ?_)
        | (with_reducible refine awp_exit ?_)
        | (with_reducible refine post_ret ?_)
        | (with_reducible refine post_normal ?_)
        | (with_reducible refine awp_block ?_)
        | (with_reducible refine awp_scope_ret ?_)
        | (with_reducible refine awp_label ?_)
        | (with_reducible refine v_reg [] (fun K hK => ?_))
        | (with_reducible refine v_reg1 [] (fun K hK => ?_))
        | (with_reducible refine v_draw mixed [] [] (by kernel_rfl) (fun K hK => ?_))
        | (with_reducible refine v_draw1 mixed [] [] (by kernel_rfl) (fun K hK => ?_))
        | (with_reducible refine ev_nil (hK _ _ ?_); clear hK K)
        | (with_reducible refine ed_nil (hK _ _ ?_); clear hK K)
        | ((first | with_reducible refine ev_cons (fun K' hK' => ?_) | with_reducible refine ed_cons (fun K' hK' => ?_) | (with_reducible refine ev_id ?_; refine ev_guard rfl (fun K' hK' => ?_)) | (with_reducible refine ed_id ?_; refine ed_guard rfl (fun K' hK' => ?_))); simp [h8, h1, h2, h3, h7, hx1, hxr, hrx, hlt, hcg, b1, b2]; repeat' (first | (with_reducible refine hK' _ _ ?_; clear hK' K') | (with_reducible refine And.intro ?_ ?_) | (with_reducible intro hg) | (clear hK' K'; omega)))
        | (with_reducible refine w_cond (fun A B hA hB => ?_); simp [h8, h1, h2, h3, h7, hx1, hxr, hrx, hlt, hcg, b1, b2]; repeat' (first | (with_reducible refine hA ?_; clear hA hB A B) | (with_reducible refine hB ?_; clear hA hB A B) | (with_reducible refine And.intro ?_ ?_) | (with_reducible intro hc)))
        | (with_reducible refine awp_seq ?_))
      exact ⟨by simp, hsub.upd (sub_free hsub hr1) _⟩
    have hb' : ∀ i : Int, 0 ≤ i → i < ((k + 1 : Nat) : Int) → -1073741824 ≤ costF cost i ∧ costF cost i ≤ 1073741824 := by
      intro i i0 i1
      by_cases e : i = k
      · rw [e, hy]; omega
      · exact hb i i0 (by omega)
    by_cases e : hdA arcs k = v
    · rw [if_pos e] at hss
      repeat' (first
        | (with_reducible refine awp_skip ?_)
        | (with_reducible refine then_any ?_)
        | (with_reducible refine then_ret ?_)
        | (with_reducible refine then_exit ?_)
        | (with_reducible refine inBlock_normal ?_)
        | (with_reducible refine inBlock_ret ?_)
        | (with_reducible refine inBlock_hit ?_)
        | (with_reducible refine inBlock_miss (by decide) ?_)
        | (with_reducible refine awp_ret ?_)
        | (with_reducible refine awp_exit ?_)
        | (with_reducible refine post_ret ?_)
        | (with_reducible refine post_normal ?_)
        | (with_reducible refine awp_block ?_)
        | (with_reducible refine awp_scope_ret ?_)
        | (with_reducible refine awp_label ?_)
        | (with_reducible refine v_reg [] (fun K hK => ?_))
        | (with_reducible refine v_reg1 [] (fun K hK => ?_))
        | (with_reducible refine v_draw mixed [] [] (by kernel_rfl) (fun K hK => ?_))
        | (with_reducible refine v_draw1 mixed [] [] (by kernel_rfl) (fun K hK => ?_))
        | (with_reducible refine ev_nil (hK _ _ ?_); clear hK K)
        | (with_reducible refine ed_nil (hK _ _ ?_); clear hK K)
        | ((first | with_reducible refine ev_cons (fun K' hK' => ?_) | with_reducible refine ed_cons (fun K' hK' => ?_) | (with_reducible refine ev_id ?_; refine ev_guard rfl (fun K' hK' => ?_)) | (with_reducible refine ed_id ?_; refine ed_guard rfl (fun K' hK' => ?_))); simp [h8, h1, h2, h3, h7, hx1, hxr, hrx, hlt, hka, pairs_len, sum2, hp.1, hp.2.1, hp.2.2, hcg, b1, b2, e]; repeat' (first | (with_reducible refine hK' _ _ ?_; clear hK' K') | (with_reducible refine And.intro ?_ ?_) | (with_reducible intro hg) | (clear hK' K'; omega)))
        | (with_reducible refine w_cond (fun A B hA hB => ?_); simp [h8, h1, h2, h3, h7, hx1, hxr, hrx, hlt, hka, pairs_len, sum2, hp.1, hp.2.1, hp.2.2, hcg, b1, b2, e]; repeat' (first | (with_reducible refine hA ?_; clear hA hB A B) | (with_reducible refine hB ?_; clear hA hB A B) | (with_reducible refine And.intro ?_ ?_) | (with_reducible intro hc)))
        | (with_reducible refine awp_seq ?_))
      refine ⟨⟨k + 1, by omega, hb', by simp, by simp [h1], by simp [h2], by simp [h3], by simp, ?_⟩, by simp; omega⟩
      rw [hss]; simp
    · rw [if_neg e, Int.add_zero] at hss
      repeat' (first
        | (with_reducible refine awp_skip ?_)
        | (with_reducible refine then_any ?_)
        | (with_reducible refine then_ret ?_)
        | (with_reducible refine then_exit ?_)
        | (with_reducible refine inBlock_normal ?_)
        | (with_reducible refine inBlock_ret ?_)
        | (with_reducible refine inBlock_hit ?_)
        | (with_reducible refine inBlock_miss (by decide) ?_)
        | (with_reducible refine awp_ret ?_)
        | (with_reducible refine awp_exit ?_)
        | (with_reducible refine post_ret ?_)
        | (with_reducible refine post_normal ?_)
        | (with_reducible refine awp_block ?_)
        | (with_reducible refine awp_scope_ret ?_)
        | (with_reducible refine awp_label ?_)
        | (with_reducible refine v_reg [] (fun K hK => ?_))
        | (with_reducible refine v_reg1 [] (fun K hK => ?_))
        | (with_reducible refine v_draw mixed [] [] (by kernel_rfl) (fun K hK => ?_))
        | (with_reducible refine v_draw1 mixed [] [] (by kernel_rfl) (fun K hK => ?_))
        | (with_reducible refine ev_nil (hK _ _ ?_); clear hK K)
        | (with_reducible refine ed_nil (hK _ _ ?_); clear hK K)
        | ((first | with_reducible refine ev_cons (fun K' hK' => ?_) | with_reducible refine ed_cons (fun K' hK' => ?_) | (with_reducible refine ev_id ?_; refine ev_guard rfl (fun K' hK' => ?_)) | (with_reducible refine ed_id ?_; refine ed_guard rfl (fun K' hK' => ?_))); simp [h8, h1, h2, h3, h7, hx1, hxr, hrx, hlt, hka, pairs_len, sum2, hp.1, hp.2.1, hp.2.2, hcg, b1, b2, e]; repeat' (first | (with_reducible refine hK' _ _ ?_; clear hK' K') | (with_reducible refine And.intro ?_ ?_) | (with_reducible intro hg) | (clear hK' K'; omega)))
        | (with_reducible refine w_cond (fun A B hA hB => ?_); simp [h8, h1, h2, h3, h7, hx1, hxr, hrx, hlt, hka, pairs_len, sum2, hp.1, hp.2.1, hp.2.2, hcg, b1, b2, e]; repeat' (first | (with_reducible refine hA ?_; clear hA hB A B) | (with_reducible refine hB ?_; clear hA hB A B) | (with_reducible refine And.intro ?_ ?_) | (with_reducible intro hc)))
        | (with_reducible refine awp_seq ?_))
      refine ⟨⟨k + 1, by omega, hb', by simp, by simp [h1], by simp [h2], by simp [h3], by simp, ?_⟩, by simp; omega⟩
      rw [hss]; simp
  · have : k = cost.length := by omega
    subst this
    repeat' (first
      | (with_reducible refine awp_skip ?_)
      | (with_reducible refine then_any ?_)
      | (with_reducible refine then_ret ?_)
      | (with_reducible refine then_exit ?_)
      | (with_reducible refine inBlock_normal ?_)
      | (with_reducible refine inBlock_ret ?_)
      | (with_reducible refine inBlock_hit ?_)
      | (with_reducible refine inBlock_miss (by decide) ?_)
      | (with_reducible refine awp_ret ?_)
      | (with_reducible refine awp_exit ?_)
      | (with_reducible refine post_ret ?_)
      | (with_reducible refine post_normal ?_)
      | (with_reducible refine awp_block ?_)
      | (with_reducible refine awp_scope_ret ?_)
      | (with_reducible refine awp_label ?_)
      | ((fail_if_success (with_reducible refine at_reg 13 ?_)); with_reducible refine v_reg [] (fun K hK => ?_))
      | ((fail_if_success (with_reducible refine (?_ : AWP _ _ _ (Code.region 13 _ _) _ _ _))); with_reducible refine v_reg1 [] (fun K hK => ?_))
      | ((fail_if_success (with_reducible refine at_reg 13 ?_)); with_reducible refine v_draw mixed [] [] (by kernel_rfl) (fun K hK => ?_))
      | ((fail_if_success (with_reducible refine (?_ : AWP _ _ _ (Code.region 13 _ _) _ _ _))); with_reducible refine v_draw1 mixed [] [] (by kernel_rfl) (fun K hK => ?_))
      | (with_reducible refine ev_nil (hK _ _ ?_); clear hK K)
      | (with_reducible refine ed_nil (hK _ _ ?_); clear hK K)
      | ((first | with_reducible refine ev_cons (fun K' hK' => ?_) | with_reducible refine ed_cons (fun K' hK' => ?_) | (with_reducible refine ev_id ?_; refine ev_guard rfl (fun K' hK' => ?_)) | (with_reducible refine ed_id ?_; refine ed_guard rfl (fun K' hK' => ?_))); simp [h8, h1, h2, h3, h7, hx1, hxr, hrx]; repeat' (first | (with_reducible refine hK' _ _ ?_; clear hK' K') | (with_reducible refine And.intro ?_ ?_) | (with_reducible intro hg) | (clear hK' K'; omega)))
      | (with_reducible refine w_cond (fun A B hA hB => ?_); simp [h8, h1, h2, h3, h7, hx1, hxr, hrx]; repeat' (first | (with_reducible refine hA ?_; clear hA hB A B) | (with_reducible refine hB ?_; clear hA hB A B) | (with_reducible refine And.intro ?_ ?_) | (with_reducible intro hc)))
      | ((fail_if_success (with_reducible refine at_reg 13 ?_)); with_reducible refine awp_seq ?_))
    refine awp_freeze 7 (r := r) (off := 0) (len := cost.length) (top := cost.length) (by simp [h7]) (upd_same _ _ _) ?_
    have hcut : cut 1 ((shC arcs cost v more cost.length).map I) 0 cost.length = ints (shC arcs cost v more cost.length) := by
      have := cut_map I (shC arcs cost v more cost.length)
      rw [shC_length] at this
      rw [this, ints, shC_length]
    rw [hcut, upd_upd, upd_none_self hr1]
    have g3' := mayC_sh (v := v) (more := more) g3 hb ⟨by omega, by omega⟩
    obtain ⟨k1, k2⟩ := shift_into g3 g3' (by omega) (by omega) v2 (fun i i0 i1 => shC_at i0 (by omega))
    cases arcs with
    | nil => simp at g0
    | cons a arcs =>
    cases cost with
    | nil => simp at hcl
    | cons c cost =>
    have g3t := mayC_tail g3
    have k3 := shift_tail g3 g3t
    have hsl := shC_length (a :: arcs) (c :: cost) v more (c :: cost).length
    have hsh : ∀ i : Int, 0 ≤ i → i < (c :: cost).length → costF (shC (a :: arcs) (c :: cost) v more (c :: cost).length) i = costF (c :: cost) i + if hdA (a :: arcs) i = v then more else 0 := fun i i0 i1 => shC_at i0 i1
    have c1 := cheap_ret (w0 := w0) (n := m) (root := root) ha hc
    have c2 := cheap_ret (w0 := w0) (n := m) (root := root) (cost := shC (a :: arcs) (c :: cost) v more (c :: cost).length) ha (by simp only [okLen] at hc ⊢; rw [hsl]; exact hc)
    have c3 := cheap_ret (w0 := w0) (n := m) (root := root) (arcs := arcs) (cost := cost) (by simp only [okLen, List.length_cons] at ha ⊢; omega) (by simp only [okLen, List.length_cons] at hc ⊢; omega)
    generalize shC (a :: arcs) (c :: cost) v more (c :: cost).length = cost' at *
    generalize cheapA m (a :: arcs) (c :: cost) root = r1 at *
    generalize cheapA m (a :: arcs) cost' root = r2 at *
    generalize cheapA m arcs cost root = r3 at *
    obtain ⟨t, cu, e⟩ := r1
    obtain ⟨u, du, f⟩ := r2
    obtain ⟨s, eu, g⟩ := r3
    simp only at k1 k2 k3
    subst k1
    simp only [cheapV, pairs, ints, cutsA, List.length_map, List.map_map, List.flatMap_cons, List.cons_append, List.nil_append, List.length_cons, List.map_cons] at c1 c2 c3 hx1
    have hal' : arcs.length ≤ 14 := by simp only [List.length_cons] at hal; omega
    have hcl' : cost.length = arcs.length := by simpa using hcl
    have hcf : ∀ i : Int, 0 ≤ i → i < (c :: cost).length → -8589934592 ≤ costF (c :: cost) i ∧ costF (c :: cost) i ≤ 8589934592 := fun i i0 i1 => by have := hcb i i0 (by omega); omega
    have hcs : ∀ i : Int, 0 ≤ i → i < cost.length → -8589934592 ≤ costF cost i ∧ costF cost i ≤ 8589934592 := fun i i0 i1 => by
      have h9 := hcb (i + 1) (by omega) (by simp only [List.length_cons]; omega)
      have e9 : costF (c :: cost) (i + 1) = costF cost i := by
        have : (i + 1).toNat = i.toNat + 1 := by omega
        simp [costF, this]
      rw [e9] at h9
      omega
    have hcf' : ∀ i : Int, 0 ≤ i → i < cost'.length → -8589934592 ≤ costF cost' i ∧ costF cost' i ≤ 8589934592 := fun i i0 i1 => by
      rw [hsl] at i1
      have h9 := hcb i i0 (by omega)
      rw [hsh i i0 i1]
      split <;> omega
    by_cases he : e = 0
    · obtain ⟨p1, p2, p3⟩ := k2 he
      have hw1 := weight_ret (w0 := w0) (w := c :: cost) (s := t) (by rw [hcl]; exact p1) hcf (by simp only [List.length_cons]; omega)
      have hw2 := weight_ret (w0 := w0) (w := cost') (s := u) (by rw [hsl, hcl]; exact p2) hcf' (by rw [hsl]; simp only [List.length_cons]; omega)
      rw [p3] at hw2
      have hwb : -1000000000000 ≤ costS (costF (c :: cost)) t ∧ costS (costF (c :: cost)) t ≤ 1000000000000 := by
        have := sum_bound (costF (c :: cost)) t (fun i hi => by have h1 := p1.lt i hi; have := hcb i h1.1 h1.2; omega)
        have := p1.length
        rw [costS]
        omega
      by_cases hg0 : g = 0
      · obtain ⟨q0, q1, q2⟩ := k3 hg0
        have hw3 := weight_ret (w0 := w0) (w := cost) (s := s) (by rw [hcl']; exact q1) hcs (by omega)
        generalize costS (costF (c :: cost)) t = z at *
        generalize costS (costF cost) s = z' at *
        simp only [ints, List.length_map, List.map_map, List.map_cons, List.length_cons] at hw1 hw2 hw3
        subst he
        subst hg0
        repeat' (first
          | (with_reducible refine awp_skip ?_)
          | (with_reducible refine then_any ?_)
          | (with_reducible refine then_ret ?_)
          | (with_reducible refine then_exit ?_)
          | (with_reducible refine inBlock_normal ?_)
          | (with_reducible refine inBlock_ret ?_)
          | (with_reducible refine inBlock_hit ?_)
          | (with_reducible refine inBlock_miss (by decide) ?_)
          | (with_reducible refine awp_ret ?_)
          | (with_reducible refine awp_exit ?_)
          | (with_reducible refine post_ret ?_)
          | (with_reducible refine post_normal ?_)
          | (with_reducible refine awp_block ?_)
          | (with_reducible refine awp_scope_ret ?_)
          | (with_reducible refine awp_label ?_)
          | ((fail_if_success (with_reducible refine at_reg 15 ?_)); with_reducible refine v_reg [] (fun K hK => ?_))
          | ((fail_if_success (with_reducible refine (?_ : AWP _ _ _ (Code.region 15 _ _) _ _ _))); with_reducible refine v_reg1 [] (fun K hK => ?_))
          | ((fail_if_success (with_reducible refine at_reg 15 ?_)); with_reducible refine v_draw mixed [] [] (by kernel_rfl) (fun K hK => ?_))
          | ((fail_if_success (with_reducible refine (?_ : AWP _ _ _ (Code.region 15 _ _) _ _ _))); with_reducible refine v_draw1 mixed [] [] (by kernel_rfl) (fun K hK => ?_))
          | (with_reducible refine ev_nil (hK _ _ ?_); clear hK K)
          | (with_reducible refine ed_nil (hK _ _ ?_); clear hK K)
          | ((first | with_reducible refine ev_cons (fun K' hK' => ?_) | with_reducible refine ed_cons (fun K' hK' => ?_) | (with_reducible refine ev_id ?_; refine ev_guard rfl (fun K' hK' => ?_)) | (with_reducible refine ed_id ?_; refine ed_guard rfl (fun K' hK' => ?_))); simp [h1, h2, h3, hx1, pairs, ints]; repeat' (first | (with_reducible refine hK' _ _ ?_; clear hK' K') | (with_reducible refine Ret.use c1 ?_; try simp [h1, h2, h3, hx1, pairs, ints]) | (with_reducible refine Ret.use c2 ?_; try simp [h1, h2, h3, hx1, pairs, ints]) | (with_reducible refine And.intro ?_ ?_) | (with_reducible intro hg) | (clear hK' K'; omega)))
          | (with_reducible refine w_cond (fun A B hA hB => ?_); simp [h1, h2, h3, hx1, pairs, ints]; repeat' (first | (with_reducible refine hA ?_; clear hA hB A B) | (with_reducible refine hB ?_; clear hA hB A B) | (with_reducible refine And.intro ?_ ?_) | (with_reducible intro hc)))
          | ((fail_if_success (with_reducible refine at_reg 15 ?_)); with_reducible refine awp_seq ?_))
        repeat' (first
          | (with_reducible refine awp_skip ?_)
          | (with_reducible refine then_any ?_)
          | (with_reducible refine then_ret ?_)
          | (with_reducible refine then_exit ?_)
          | (with_reducible refine inBlock_normal ?_)
          | (with_reducible refine inBlock_ret ?_)
          | (with_reducible refine inBlock_hit ?_)
          | (with_reducible refine inBlock_miss (by decide) ?_)
          | (with_reducible refine awp_ret ?_)
          | (with_reducible refine awp_exit ?_)
          | (with_reducible refine post_ret ?_)
          | (with_reducible refine post_normal ?_)
          | (with_reducible refine awp_block ?_)
          | (with_reducible refine awp_scope_ret ?_)
          | (with_reducible refine awp_label ?_)
          | (with_reducible refine v_reg [] (fun K hK => ?_))
          | (with_reducible refine v_reg1 [] (fun K hK => ?_))
          | (with_reducible refine v_draw mixed [] [145, 147, 150, 153] (by kernel_rfl) (fun K hK => ?_))
          | (with_reducible refine v_draw1 mixed [] [145, 147, 150, 153] (by kernel_rfl) (fun K hK => ?_))
          | (with_reducible refine ev_nil (hK _ _ ?_); clear hK K)
          | (with_reducible refine ed_nil (hK _ _ ?_); clear hK K)
          | ((first | with_reducible refine ev_cons (fun K' hK' => ?_) | with_reducible refine ed_cons (fun K' hK' => ?_) | (with_reducible refine ev_id ?_; refine ev_guard rfl (fun K' hK' => ?_)) | (with_reducible refine ed_id ?_; refine ed_guard rfl (fun K' hK' => ?_))); simp [h1, h2, h3, hx1, pairs, ints, boxes, Blk.isArr, KeepsBox.refl, q2]; repeat' (first | (with_reducible refine hK' _ _ ?_; clear hK' K') | (with_reducible refine Ret.use c3 ?_; try simp [h1, h2, h3, hx1, pairs, ints, boxes, Blk.isArr, KeepsBox.refl, q2]) | (with_reducible refine Ret.use hw1 ?_; try simp [h1, h2, h3, hx1, pairs, ints, boxes, Blk.isArr, KeepsBox.refl, q2]) | (with_reducible refine Ret.use hw2 ?_; try simp [h1, h2, h3, hx1, pairs, ints, boxes, Blk.isArr, KeepsBox.refl, q2]) | (with_reducible refine Ret.use hw3 ?_; try simp [h1, h2, h3, hx1, pairs, ints, boxes, Blk.isArr, KeepsBox.refl, q2]) | (with_reducible refine And.intro ?_ ?_) | (with_reducible intro hg) | (clear hK' K'; omega)))
          | (with_reducible refine w_cond (fun A B hA hB => ?_); simp [h1, h2, h3, hx1, pairs, ints, boxes, Blk.isArr, KeepsBox.refl, q2]; repeat' (first | (with_reducible refine hA ?_; clear hA hB A B) | (with_reducible refine hB ?_; clear hA hB A B) | (with_reducible refine And.intro ?_ ?_) | (with_reducible intro hc)))
          | (with_reducible refine awp_seq ?_))
        all_goals (first | exact hsub | exact ⟨by simp, hsub⟩ | (simp only [sum2]; omega))
      · generalize costS (costF (c :: cost)) t = z at *
        simp only [ints, List.length_map, List.map_map, List.map_cons, List.length_cons] at hw1 hw2
        subst he
        repeat' (first
          | (with_reducible refine awp_skip ?_)
          | (with_reducible refine then_any ?_)
          | (with_reducible refine then_ret ?_)
          | (with_reducible refine then_exit ?_)
          | (with_reducible refine inBlock_normal ?_)
          | (with_reducible refine inBlock_ret ?_)
          | (with_reducible refine inBlock_hit ?_)
          | (with_reducible refine inBlock_miss (by decide) ?_)
          | (with_reducible refine awp_ret ?_)
          | (with_reducible refine awp_exit ?_)
          | (with_reducible refine post_ret ?_)
          | (with_reducible refine post_normal ?_)
          | (with_reducible refine awp_block ?_)
          | (with_reducible refine awp_scope_ret ?_)
          | (with_reducible refine awp_label ?_)
          | ((fail_if_success (with_reducible refine at_reg 15 ?_)); with_reducible refine v_reg [] (fun K hK => ?_))
          | ((fail_if_success (with_reducible refine (?_ : AWP _ _ _ (Code.region 15 _ _) _ _ _))); with_reducible refine v_reg1 [] (fun K hK => ?_))
          | ((fail_if_success (with_reducible refine at_reg 15 ?_)); with_reducible refine v_draw mixed [] [] (by kernel_rfl) (fun K hK => ?_))
          | ((fail_if_success (with_reducible refine (?_ : AWP _ _ _ (Code.region 15 _ _) _ _ _))); with_reducible refine v_draw1 mixed [] [] (by kernel_rfl) (fun K hK => ?_))
          | (with_reducible refine ev_nil (hK _ _ ?_); clear hK K)
          | (with_reducible refine ed_nil (hK _ _ ?_); clear hK K)
          | ((first | with_reducible refine ev_cons (fun K' hK' => ?_) | with_reducible refine ed_cons (fun K' hK' => ?_) | (with_reducible refine ev_id ?_; refine ev_guard rfl (fun K' hK' => ?_)) | (with_reducible refine ed_id ?_; refine ed_guard rfl (fun K' hK' => ?_))); simp [h1, h2, h3, hx1, pairs, ints]; repeat' (first | (with_reducible refine hK' _ _ ?_; clear hK' K') | (with_reducible refine Ret.use c1 ?_; try simp [h1, h2, h3, hx1, pairs, ints]) | (with_reducible refine Ret.use c2 ?_; try simp [h1, h2, h3, hx1, pairs, ints]) | (with_reducible refine And.intro ?_ ?_) | (with_reducible intro hg) | (clear hK' K'; omega)))
          | (with_reducible refine w_cond (fun A B hA hB => ?_); simp [h1, h2, h3, hx1, pairs, ints]; repeat' (first | (with_reducible refine hA ?_; clear hA hB A B) | (with_reducible refine hB ?_; clear hA hB A B) | (with_reducible refine And.intro ?_ ?_) | (with_reducible intro hc)))
          | ((fail_if_success (with_reducible refine at_reg 15 ?_)); with_reducible refine awp_seq ?_))
        repeat' (first
          | (with_reducible refine awp_skip ?_)
          | (with_reducible refine then_any ?_)
          | (with_reducible refine then_ret ?_)
          | (with_reducible refine then_exit ?_)
          | (with_reducible refine inBlock_normal ?_)
          | (with_reducible refine inBlock_ret ?_)
          | (with_reducible refine inBlock_hit ?_)
          | (with_reducible refine inBlock_miss (by decide) ?_)
          | (with_reducible refine awp_ret ?_)
          | (with_reducible refine awp_exit ?_)
          | (with_reducible refine post_ret ?_)
          | (with_reducible refine post_normal ?_)
          | (with_reducible refine awp_block ?_)
          | (with_reducible refine awp_scope_ret ?_)
          | (with_reducible refine awp_label ?_)
          | (with_reducible refine v_reg [] (fun K hK => ?_))
          | (with_reducible refine v_reg1 [] (fun K hK => ?_))
          | (with_reducible refine v_draw mixed [] [145, 147, 150, 153] (by kernel_rfl) (fun K hK => ?_))
          | (with_reducible refine v_draw1 mixed [] [145, 147, 150, 153] (by kernel_rfl) (fun K hK => ?_))
          | (with_reducible refine ev_nil (hK _ _ ?_); clear hK K)
          | (with_reducible refine ed_nil (hK _ _ ?_); clear hK K)
          | ((first | with_reducible refine ev_cons (fun K' hK' => ?_) | with_reducible refine ed_cons (fun K' hK' => ?_) | (with_reducible refine ev_id ?_; refine ev_guard rfl (fun K' hK' => ?_)) | (with_reducible refine ed_id ?_; refine ed_guard rfl (fun K' hK' => ?_))); simp [h1, h2, h3, hx1, pairs, ints, boxes, Blk.isArr, KeepsBox.refl, hg0]; repeat' (first | (with_reducible refine hK' _ _ ?_; clear hK' K') | (with_reducible refine Ret.use c3 ?_; try simp [h1, h2, h3, hx1, pairs, ints, boxes, Blk.isArr, KeepsBox.refl, hg0]) | (with_reducible refine Ret.use hw1 ?_; try simp [h1, h2, h3, hx1, pairs, ints, boxes, Blk.isArr, KeepsBox.refl, hg0]) | (with_reducible refine Ret.use hw2 ?_; try simp [h1, h2, h3, hx1, pairs, ints, boxes, Blk.isArr, KeepsBox.refl, hg0]) | (with_reducible refine And.intro ?_ ?_) | (with_reducible intro hg) | (clear hK' K'; omega)))
          | (with_reducible refine w_cond (fun A B hA hB => ?_); simp [h1, h2, h3, hx1, pairs, ints, boxes, Blk.isArr, KeepsBox.refl, hg0]; repeat' (first | (with_reducible refine hA ?_; clear hA hB A B) | (with_reducible refine hB ?_; clear hA hB A B) | (with_reducible refine And.intro ?_ ?_) | (with_reducible intro hc)))
          | (with_reducible refine awp_seq ?_))
        all_goals (first | exact hsub | exact ⟨by simp, hsub⟩ | (simp only [sum2]; omega))
    · have hg0 : g ≠ 0 := fun k => he (k3 k).1
      repeat' (first
        | (with_reducible refine awp_skip ?_)
        | (with_reducible refine then_any ?_)
        | (with_reducible refine then_ret ?_)
        | (with_reducible refine then_exit ?_)
        | (with_reducible refine inBlock_normal ?_)
        | (with_reducible refine inBlock_ret ?_)
        | (with_reducible refine inBlock_hit ?_)
        | (with_reducible refine inBlock_miss (by decide) ?_)
        | (with_reducible refine awp_ret ?_)
        | (with_reducible refine awp_exit ?_)
        | (with_reducible refine post_ret ?_)
        | (with_reducible refine post_normal ?_)
        | (with_reducible refine awp_block ?_)
        | (with_reducible refine awp_scope_ret ?_)
        | (with_reducible refine awp_label ?_)
        | ((fail_if_success (with_reducible refine at_reg 15 ?_)); with_reducible refine v_reg [] (fun K hK => ?_))
        | ((fail_if_success (with_reducible refine (?_ : AWP _ _ _ (Code.region 15 _ _) _ _ _))); with_reducible refine v_reg1 [] (fun K hK => ?_))
        | ((fail_if_success (with_reducible refine at_reg 15 ?_)); with_reducible refine v_draw mixed [] [] (by kernel_rfl) (fun K hK => ?_))
        | ((fail_if_success (with_reducible refine (?_ : AWP _ _ _ (Code.region 15 _ _) _ _ _))); with_reducible refine v_draw1 mixed [] [] (by kernel_rfl) (fun K hK => ?_))
        | (with_reducible refine ev_nil (hK _ _ ?_); clear hK K)
        | (with_reducible refine ed_nil (hK _ _ ?_); clear hK K)
        | ((first | with_reducible refine ev_cons (fun K' hK' => ?_) | with_reducible refine ed_cons (fun K' hK' => ?_) | (with_reducible refine ev_id ?_; refine ev_guard rfl (fun K' hK' => ?_)) | (with_reducible refine ed_id ?_; refine ed_guard rfl (fun K' hK' => ?_))); simp [h1, h2, h3, hx1, pairs, ints]; repeat' (first | (with_reducible refine hK' _ _ ?_; clear hK' K') | (with_reducible refine Ret.use c1 ?_; try simp [h1, h2, h3, hx1, pairs, ints]) | (with_reducible refine Ret.use c2 ?_; try simp [h1, h2, h3, hx1, pairs, ints]) | (with_reducible refine And.intro ?_ ?_) | (with_reducible intro hg) | (clear hK' K'; omega)))
        | (with_reducible refine w_cond (fun A B hA hB => ?_); simp [h1, h2, h3, hx1, pairs, ints]; repeat' (first | (with_reducible refine hA ?_; clear hA hB A B) | (with_reducible refine hB ?_; clear hA hB A B) | (with_reducible refine And.intro ?_ ?_) | (with_reducible intro hc)))
        | ((fail_if_success (with_reducible refine at_reg 15 ?_)); with_reducible refine awp_seq ?_))
      repeat' (first
        | (with_reducible refine awp_skip ?_)
        | (with_reducible refine then_any ?_)
        | (with_reducible refine then_ret ?_)
        | (with_reducible refine then_exit ?_)
        | (with_reducible refine inBlock_normal ?_)
        | (with_reducible refine inBlock_ret ?_)
        | (with_reducible refine inBlock_hit ?_)
        | (with_reducible refine inBlock_miss (by decide) ?_)
        | (with_reducible refine awp_ret ?_)
        | (with_reducible refine awp_exit ?_)
        | (with_reducible refine post_ret ?_)
        | (with_reducible refine post_normal ?_)
        | (with_reducible refine awp_block ?_)
        | (with_reducible refine awp_scope_ret ?_)
        | (with_reducible refine awp_label ?_)
        | (with_reducible refine v_reg [] (fun K hK => ?_))
        | (with_reducible refine v_reg1 [] (fun K hK => ?_))
        | (with_reducible refine v_draw mixed [] [145, 147, 150, 153] (by kernel_rfl) (fun K hK => ?_))
        | (with_reducible refine v_draw1 mixed [] [145, 147, 150, 153] (by kernel_rfl) (fun K hK => ?_))
        | (with_reducible refine ev_nil (hK _ _ ?_); clear hK K)
        | (with_reducible refine ed_nil (hK _ _ ?_); clear hK K)
        | ((first | with_reducible refine ev_cons (fun K' hK' => ?_) | with_reducible refine ed_cons (fun K' hK' => ?_) | (with_reducible refine ev_id ?_; refine ev_guard rfl (fun K' hK' => ?_)) | (with_reducible refine ed_id ?_; refine ed_guard rfl (fun K' hK' => ?_))); simp [h1, h2, h3, hx1, pairs, ints, boxes, Blk.isArr, KeepsBox.refl, he, hg0]; repeat' (first | (with_reducible refine hK' _ _ ?_; clear hK' K') | (with_reducible refine Ret.use c3 ?_; try simp [h1, h2, h3, hx1, pairs, ints, boxes, Blk.isArr, KeepsBox.refl, he, hg0]) | (with_reducible refine And.intro ?_ ?_) | (with_reducible intro hg) | (clear hK' K'; omega)))
        | (with_reducible refine w_cond (fun A B hA hB => ?_); simp [h1, h2, h3, hx1, pairs, ints, boxes, Blk.isArr, KeepsBox.refl, he, hg0]; repeat' (first | (with_reducible refine hA ?_; clear hA hB A B) | (with_reducible refine hB ?_; clear hA hB A B) | (with_reducible refine And.intro ?_ ?_) | (with_reducible intro hc)))
        | (with_reducible refine awp_seq ?_))
      all_goals (first | exact hsub | exact ⟨by simp, hsub⟩ | (simp only [sum2]; omega))
end Go.Am
