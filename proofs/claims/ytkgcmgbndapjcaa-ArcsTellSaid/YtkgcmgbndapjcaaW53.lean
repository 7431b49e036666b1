/- Contracts: whether a network may be (arbor, arcs, and the references). -/
import Derived.Test.YtkgcmgbndapjcaaW52
namespace Go.Am
open Go Go.Proofs
set_option linter.unusedVariables false
set_option linter.unusedSimpArgs false
variable {w0 : World}
attribute [local irreducible] AWP ACalls
attribute [local congr] acalls_congr

theorem pairs_at {es : List (Int × Int)} {k : Nat} (h : k < es.length) : (∀ h', (es.flatMap fun e => [I e.1, I e.2])[k * 2]'h' = I es[k].1) ∧ (∀ h', (es.flatMap fun e => [I e.1, I e.2])[k * 2 + 1]'h' = I es[k].2) ∧ k * 2 + 1 < es.length * 2 := by
  have hp := pairs_get h
  exact ⟨fun h' => by have := hp.1; rw [List.getElem?_eq_getElem h'] at this; simpa using this, fun h' => by have := hp.2.1; rw [List.getElem?_eq_getElem h'] at this; simpa using this, by omega⟩

/-- A network, as far as costs are not asked. -/
def mayA (n : Int) (arcs : List (Int × Int)) (root : Int) : Bool := decide (1 ≤ n) && decide (n ≤ 64) && decide (arcs.length ≤ 64) && decide (0 ≤ root) && decide (root < n) && arcs.all (edgeOk n)
def costOk (x : Int) : Bool := decide (-2147483648 ≤ x) && decide (x ≤ 2147483648)
def mayC (n : Int) (arcs : List (Int × Int)) (cost : List Int) (root : Int) : Bool := mayA n arcs root && decide (cost.length = arcs.length) && cost.all costOk

theorem mayC_len {n : Int} {arcs : List (Int × Int)} {cost : List Int} {root : Int} (h : cost.length ≠ arcs.length) : mayC n arcs cost root = false := by simp [mayC, h]

theorem arborMay_ret {n root : Int} {arcs : List (Int × Int)} {cost : List Int} (ha : okLen arcs) (hc : okLen cost) : Ret Try.prog w0 41 [I n, pairs arcs, ints cost, I root] (B (mayC n arcs cost root)) := by
  intro H
  refine w_enter Try.func41 rfl Try.ntmps41 (ts := [8]) rfl (by simp) (by kernel_rfl) ?_
  by_cases h1 : 1 ≤ n ∧ n ≤ 64 ∧ arcs.length ≤ 64 ∧ cost.length = arcs.length ∧ 0 ≤ root ∧ root < n
  · obtain ⟨a1, a2, a3, a4, a5, a6⟩ := h1
    have b1 : ¬ n < 1 := by omega
    have b2 : ¬ 64 < n := by omega
    have b3 : ¬ (64 : Int) < arcs.length := by omega
    have b5 : ¬ root < 0 := by omega
    have b6 : ¬ n ≤ root := by omega
    repeat' (first
      | (with_reducible refine awp_skip ?_)
      | (with_reducible refine then_any ?_)
      | (with_reducible refine then_ret ?_)
      | (with_reducible refine then_exit ?_)
      | (with_reducible refine inBlock_normal ?_)
      | (with_reducible refine inBlock_ret ?_)
      | (with_reducible refine inBlock_hit ?_)
      | (with_reducible refine inBlock_miss (by decide) ?_)
      | (with_reducible refine awp_ret ?_)
      | (with_reducible refine awp_exit ?_)
      | (with_reducible refine post_ret ?_)
      | (with_reducible refine post_normal ?_)
      | (with_reducible refine awp_block ?_)
      | (with_reducible refine v_reg [] (fun K hK => ?_))
      | (with_reducible refine v_reg1 [] (fun K hK => ?_))
      | (with_reducible refine v_draw mixed [] [] (by kernel_rfl) (fun K hK => ?_))
      | (with_reducible refine v_draw1 mixed [] [] (by kernel_rfl) (fun K hK => ?_))
      | (with_reducible refine ev_nil (hK _ _ ?_); clear hK K)
      | (with_reducible refine ed_nil (hK _ _ ?_); clear hK K)
      | ((first | with_reducible refine ev_cons (fun K' hK' => ?_) | with_reducible refine ed_cons (fun K' hK' => ?_) | (with_reducible refine ev_id ?_; refine ev_guard rfl (fun K' hK' => ?_)) | (with_reducible refine ed_id ?_; refine ed_guard rfl (fun K' hK' => ?_))); simp [pairs, ints, b1, b2, b3, a4, b5, b6]; repeat' (first | (with_reducible refine hK' _ _ ?_; clear hK' K') | (with_reducible refine And.intro ?_ ?_) | (with_reducible intro hg) | (clear hK' K'; omega)))
      | (with_reducible refine w_cond (fun A B hA hB => ?_); simp [pairs, ints, b1, b2, b3, a4, b5, b6]; repeat' (first | (with_reducible refine hA ?_; clear hA hB A B) | (with_reducible refine hB ?_; clear hA hB A B) | (with_reducible refine And.intro ?_ ?_) | (with_reducible intro hc)))
      | (with_reducible refine awp_seq ?_))
    refine awp_loop_prep (fun env h => ∃ k : Nat, k ≤ arcs.length ∧ (arcs.take k).all (edgeOk n) = true ∧ (cost.take k).all costOk = true ∧ env 40 = I k ∧ env 39 = I arcs.length ∧ env 38 = pairs arcs ∧ env 0 = I n ∧ env 2 = ints cost ∧ h = H)
      (fun env h => ∃ k : Nat, k ≤ arcs.length ∧ (arcs.take k).all (edgeOk n) = true ∧ (cost.take k).all costOk = true ∧ env 40 = I k ∧ env 39 = I arcs.length ∧ env 38 = pairs arcs ∧ env 0 = I n ∧ env 2 = ints cost ∧ Sub H h) (fun env _ => arcs.length - natA (env 40)) ?_ ?_ ?_
    · exact ⟨0, by omega, by simp, by simp, by simp, by simp, by simp [pairs], by simp, by simp [ints, a4], .refl _⟩
    · rintro env h ⟨k, c1, c2, c3, c4, c5, c6, c7, c8, s⟩ Q' q
      exact AWP.sub s (q env _ ⟨k, c1, c2, c3, c4, c5, c6, c7, c8, rfl⟩ rfl)
    rintro env h ⟨k, hk, hE, hC, h40, h39, h38, h0, h2, rfl⟩
    have hnat : natA (env 40) = k := by simp [h40]
    rw [hnat]; clear hnat
    by_cases hlt : k < arcs.length
    · have hp := pairs_get hlt
      have hkc : k < cost.length := by omega
      have hE2 : (arcs.take (k + 1)).all (edgeOk n) = edgeOk n arcs[k] := by rw [List.take_succ_eq_append_getElem hlt, List.all_append, hE]; simp
      have hC2 : (cost.take (k + 1)).all costOk = costOk cost[k] := by rw [List.take_succ_eq_append_getElem hkc, List.all_append, hC]; simp
      have hno : (edgeOk n arcs[k] && costOk cost[k]) = false → mayC n arcs cost root = false := by
        intro e
        rw [Bool.and_eq_false_iff] at e
        rcases e with e | e
        · have : arcs.all (edgeOk n) = false := by rw [List.all_eq_false]; exact ⟨arcs[k], by simp, by simp [e]⟩
          simp [mayC, mayA, this]
        · have : cost.all costOk = false := by rw [List.all_eq_false]; exact ⟨cost[k], by simp, by simp [e]⟩
          simp [mayC, this]
      repeat' (first
        | (with_reducible refine awp_skip ?_)
        | (with_reducible refine then_any ?_)
        | (with_reducible refine then_ret ?_)
        | (with_reducible refine then_exit ?_)
        | (with_reducible refine inBlock_normal ?_)
        | (with_reducible refine inBlock_ret ?_)
        | (with_reducible refine inBlock_hit ?_)
        | (with_reducible refine inBlock_miss (by decide) ?_)
        | (with_reducible refine awp_ret ?_)
        | (with_reducible refine awp_exit ?_)
        | (with_reducible refine post_ret ?_)
        | (with_reducible refine post_normal ?_)
        | (with_reducible refine awp_block ?_)
        | (with_reducible refine v_reg [] (fun K hK => ?_))
        | (with_reducible refine v_reg1 [] (fun K hK => ?_))
        | (with_reducible refine v_draw mixed [] [] (by kernel_rfl) (fun K hK => ?_))
        | (with_reducible refine v_draw1 mixed [] [] (by kernel_rfl) (fun K hK => ?_))
        | (with_reducible refine ev_nil (hK _ _ ?_); clear hK K)
        | (with_reducible refine ed_nil (hK _ _ ?_); clear hK K)
        | ((first | with_reducible refine ev_cons (fun K' hK' => ?_) | with_reducible refine ed_cons (fun K' hK' => ?_) | (with_reducible refine ev_id ?_; refine ev_guard rfl (fun K' hK' => ?_)) | (with_reducible refine ed_id ?_; refine ed_guard rfl (fun K' hK' => ?_))); simp [h40, h39, h38, h0, h2, pairs, ints, hlt, hkc, hp.1, hp.2.1, hp.2.2, pairs_len, sum2, imin, imax]; repeat' (first | (with_reducible refine hK' _ _ ?_; clear hK' K') | (with_reducible refine And.intro ?_ ?_) | (with_reducible intro hg) | (clear hK' K'; omega)))
        | (with_reducible refine w_cond (fun A B hA hB => ?_); simp [h40, h39, h38, h0, h2, pairs, ints, hlt, hkc, hp.1, hp.2.1, hp.2.2, pairs_len, sum2, imin, imax]; repeat' (first | (with_reducible refine hA ?_; clear hA hB A B) | (with_reducible refine hB ?_; clear hA hB A B) | (with_reducible refine And.intro ?_ ?_) | (with_reducible intro hc)))
        | (with_reducible refine awp_seq ?_))
      all_goals first
        | exact ⟨⟨k + 1, by omega, by rw [hE2]; simp [edgeOk]; omega, by rw [hC2]; simp [costOk]; omega, by simp, by simp [h39], by simp [h38], by simp [h0], by simp [h2], sub_new (by assumption)⟩, by simp; omega⟩
        | exact ⟨by rw [hno (by simp [edgeOk, costOk]; omega)]; simp, sub_new (by assumption)⟩
    · have : k = arcs.length := by omega
      subst this
      rw [List.take_length] at hE
      rw [← a4, List.take_length] at hC
      repeat' (first
        | (with_reducible refine awp_skip ?_)
        | (with_reducible refine then_any ?_)
        | (with_reducible refine then_ret ?_)
        | (with_reducible refine then_exit ?_)
        | (with_reducible refine inBlock_normal ?_)
        | (with_reducible refine inBlock_ret ?_)
        | (with_reducible refine inBlock_hit ?_)
        | (with_reducible refine inBlock_miss (by decide) ?_)
        | (with_reducible refine awp_ret ?_)
        | (with_reducible refine awp_exit ?_)
        | (with_reducible refine post_ret ?_)
        | (with_reducible refine post_normal ?_)
        | (with_reducible refine awp_block ?_)
        | (with_reducible refine v_reg [] (fun K hK => ?_))
        | (with_reducible refine v_reg1 [] (fun K hK => ?_))
        | (with_reducible refine v_draw mixed [] [] (by kernel_rfl) (fun K hK => ?_))
        | (with_reducible refine v_draw1 mixed [] [] (by kernel_rfl) (fun K hK => ?_))
        | (with_reducible refine ev_nil (hK _ _ ?_); clear hK K)
        | (with_reducible refine ed_nil (hK _ _ ?_); clear hK K)
        | ((first | with_reducible refine ev_cons (fun K' hK' => ?_) | with_reducible refine ed_cons (fun K' hK' => ?_) | (with_reducible refine ev_id ?_; refine ev_guard rfl (fun K' hK' => ?_)) | (with_reducible refine ed_id ?_; refine ed_guard rfl (fun K' hK' => ?_))); simp [h40, h39, h38, h0, h2]; repeat' (first | (with_reducible refine hK' _ _ ?_; clear hK' K') | (with_reducible refine And.intro ?_ ?_) | (with_reducible intro hg) | (clear hK' K'; omega)))
        | (with_reducible refine w_cond (fun A B hA hB => ?_); simp [h40, h39, h38, h0, h2]; repeat' (first | (with_reducible refine hA ?_; clear hA hB A B) | (with_reducible refine hB ?_; clear hA hB A B) | (with_reducible refine And.intro ?_ ?_) | (with_reducible intro hc)))
        | (with_reducible refine awp_seq ?_))
      simp [mayC, mayA, *]
  · have hf : mayC n arcs cost root = false := by
      cases e : mayC n arcs cost root
      · rfl
      · simp [mayC, mayA] at e; omega
    repeat' (first
      | (with_reducible refine awp_skip ?_)
      | (with_reducible refine then_any ?_)
      | (with_reducible refine then_ret ?_)
      | (with_reducible refine then_exit ?_)
      | (with_reducible refine inBlock_normal ?_)
      | (with_reducible refine inBlock_ret ?_)
      | (with_reducible refine inBlock_hit ?_)
      | (with_reducible refine inBlock_miss (by decide) ?_)
      | (with_reducible refine awp_ret ?_)
      | (with_reducible refine awp_exit ?_)
      | (with_reducible refine post_ret ?_)
      | (with_reducible refine post_normal ?_)
      | (with_reducible refine awp_block ?_)
      | (with_reducible refine v_reg [] (fun K hK => ?_))
      | (with_reducible refine v_reg1 [] (fun K hK => ?_))
      | (with_reducible refine v_draw mixed [] [] (by kernel_rfl) (fun K hK => ?_))
      | (with_reducible refine v_draw1 mixed [] [] (by kernel_rfl) (fun K hK => ?_))
      | (with_reducible refine ev_nil (hK _ _ ?_); clear hK K)
      | (with_reducible refine ed_nil (hK _ _ ?_); clear hK K)
      | ((first | with_reducible refine ev_cons (fun K' hK' => ?_) | with_reducible refine ed_cons (fun K' hK' => ?_) | (with_reducible refine ev_id ?_; refine ev_guard rfl (fun K' hK' => ?_)) | (with_reducible refine ed_id ?_; refine ed_guard rfl (fun K' hK' => ?_))); simp [pairs, ints]; repeat' (first | (with_reducible refine hK' _ _ ?_; clear hK' K') | (with_reducible refine And.intro ?_ ?_) | (with_reducible intro hg) | (clear hK' K'; omega)))
      | (with_reducible refine w_cond (fun A B hA hB => ?_); simp [pairs, ints]; repeat' (first | (with_reducible refine hA ?_; clear hA hB A B) | (with_reducible refine hB ?_; clear hA hB A B) | (with_reducible refine And.intro ?_ ?_) | (with_reducible intro hc)))
      | (with_reducible refine awp_seq ?_))
    all_goals first
      | (exfalso; omega)
      | simp [hf]

theorem may19_ret {n root : Int} {arcs : List (Int × Int)} {cost : List Int} (ha : okLen arcs) (hc : okLen cost) : Ret Try.prog w0 30 [I n, pairs arcs, ints cost, I root] (B (mayC n arcs cost root)) := by
  intro H
  refine w_enter Try.func30 rfl Try.ntmps30 (ts := [8]) rfl (by simp) (by kernel_rfl) ?_
  repeat' (first
    | (with_reducible refine awp_skip ?_)
    | (with_reducible refine then_any ?_)
    | (with_reducible refine then_ret ?_)
    | (with_reducible refine then_exit ?_)
    | (with_reducible refine inBlock_normal ?_)
    | (with_reducible refine inBlock_ret ?_)
    | (with_reducible refine inBlock_hit ?_)
    | (with_reducible refine inBlock_miss (by decide) ?_)
    | (with_reducible refine awp_ret ?_)
    | (with_reducible refine awp_exit ?_)
    | (with_reducible refine post_ret ?_)
    | (with_reducible refine post_normal ?_)
    | (with_reducible refine awp_block ?_)
    | (with_reducible refine v_reg [] (fun K hK => ?_))
    | (with_reducible refine v_reg1 [] (fun K hK => ?_))
    | (with_reducible refine v_draw mixed [] [] (by kernel_rfl) (fun K hK => ?_))
    | (with_reducible refine v_draw1 mixed [] [] (by kernel_rfl) (fun K hK => ?_))
    | (with_reducible refine ev_nil (hK _ _ ?_); clear hK K)
    | (with_reducible refine ed_nil (hK _ _ ?_); clear hK K)
    | ((first | with_reducible refine ev_cons (fun K' hK' => ?_) | with_reducible refine ed_cons (fun K' hK' => ?_) | (with_reducible refine ev_id ?_; refine ev_guard rfl (fun K' hK' => ?_)) | (with_reducible refine ed_id ?_; refine ed_guard rfl (fun K' hK' => ?_))); simp [pairs, ints]; repeat' (first | (with_reducible refine hK' _ _ ?_; clear hK' K') | (with_reducible refine And.intro ?_ ?_) | (with_reducible intro hg) | (clear hK' K'; omega)))
    | (with_reducible refine w_cond (fun A B hA hB => ?_); simp [pairs, ints]; repeat' (first | (with_reducible refine hA ?_; clear hA hB A B) | (with_reducible refine hB ?_; clear hA hB A B) | (with_reducible refine And.intro ?_ ?_) | (with_reducible intro hc)))
    | (with_reducible refine awp_seq ?_))
  refine awp_loop (fun env h => ∃ k : Nat, k ≤ arcs.length ∧ (arcs.take k).all (edgeOk n) = true ∧ env 9 = I k ∧ env 0 = I n ∧ env 1 = pairs arcs ∧ env 2 = ints cost ∧ env 3 = I root ∧ h = H) (fun env _ => arcs.length - natA (env 9)) ?_ ?_
  · exact ⟨0, by omega, by simp, by simp, by simp, by simp [pairs], by simp [ints], by simp, rfl⟩
  rintro env h ⟨k, hk, hE, h9, h0, h1, h2, h3, rfl⟩
  have hnat : natA (env 9) = k := by simp [h9]
  rw [hnat]; clear hnat
  by_cases hlt : k < arcs.length
  · have hp := pairs_at hlt
    have hE2 : (arcs.take (k + 1)).all (edgeOk n) = edgeOk n arcs[k] := by rw [List.take_succ_eq_append_getElem hlt, List.all_append, hE]; simp
    have hno : edgeOk n arcs[k] = false → mayC n arcs cost root = false := by
      intro e
      have : arcs.all (edgeOk n) = false := by rw [List.all_eq_false]; exact ⟨arcs[k], by simp, by simp [e]⟩
      simp [mayC, mayA, this]
    repeat' (first
      | (with_reducible refine awp_skip ?_)
      | (with_reducible refine then_any ?_)
      | (with_reducible refine then_ret ?_)
      | (with_reducible refine then_exit ?_)
      | (with_reducible refine inBlock_normal ?_)
      | (with_reducible refine inBlock_ret ?_)
      | (with_reducible refine inBlock_hit ?_)
      | (with_reducible refine inBlock_miss (by decide) ?_)
      | (with_reducible refine awp_ret ?_)
      | (with_reducible refine awp_exit ?_)
      | (with_reducible refine post_ret ?_)
      | (with_reducible refine post_normal ?_)
      | (with_reducible refine awp_block ?_)
      | (with_reducible refine v_reg [] (fun K hK => ?_))
      | (with_reducible refine v_reg1 [] (fun K hK => ?_))
      | (with_reducible refine v_draw mixed [] [] (by kernel_rfl) (fun K hK => ?_))
      | (with_reducible refine v_draw1 mixed [] [] (by kernel_rfl) (fun K hK => ?_))
      | (with_reducible refine ev_nil (hK _ _ ?_); clear hK K)
      | (with_reducible refine ed_nil (hK _ _ ?_); clear hK K)
      | ((first | with_reducible refine ev_cons (fun K' hK' => ?_) | with_reducible refine ed_cons (fun K' hK' => ?_) | (with_reducible refine ev_id ?_; refine ev_guard rfl (fun K' hK' => ?_)) | (with_reducible refine ed_id ?_; refine ed_guard rfl (fun K' hK' => ?_))); simp [h9, h0, h1, h2, h3, pairs, ints, hlt, hp.1, hp.2.1, hp.2.2, pairs_len, sum2]; repeat' (first | (with_reducible refine hK' _ _ ?_; clear hK' K') | (with_reducible refine And.intro ?_ ?_) | (with_reducible intro hg) | (clear hK' K'; omega)))
      | (with_reducible refine w_cond (fun A B hA hB => ?_); simp [h9, h0, h1, h2, h3, pairs, ints, hlt, hp.1, hp.2.1, hp.2.2, pairs_len, sum2]; repeat' (first | (with_reducible refine hA ?_; clear hA hB A B) | (with_reducible refine hB ?_; clear hA hB A B) | (with_reducible refine And.intro ?_ ?_) | (with_reducible intro hc)))
      | (with_reducible refine awp_seq ?_))
    all_goals first
      | exact ⟨⟨k + 1, by omega, by rw [hE2]; simp [edgeOk]; omega, by simp, by simp [h0], by simp [h1], by simp [h2], by simp [h3], rfl⟩, by simp; omega⟩
      | (rw [hno (by simp [edgeOk]; omega)]; simp)
  · have : k = arcs.length := by omega
    subst this
    rw [List.take_length] at hE
    repeat' (first
      | (with_reducible refine awp_skip ?_)
      | (with_reducible refine then_any ?_)
      | (with_reducible refine then_ret ?_)
      | (with_reducible refine then_exit ?_)
      | (with_reducible refine inBlock_normal ?_)
      | (with_reducible refine inBlock_ret ?_)
      | (with_reducible refine inBlock_hit ?_)
      | (with_reducible refine inBlock_miss (by decide) ?_)
      | (with_reducible refine awp_ret ?_)
      | (with_reducible refine awp_exit ?_)
      | (with_reducible refine post_ret ?_)
      | (with_reducible refine post_normal ?_)
      | (with_reducible refine awp_block ?_)
      | (with_reducible refine v_reg [] (fun K hK => ?_))
      | (with_reducible refine v_reg1 [] (fun K hK => ?_))
      | (with_reducible refine v_draw mixed [] [] (by kernel_rfl) (fun K hK => ?_))
      | (with_reducible refine v_draw1 mixed [] [] (by kernel_rfl) (fun K hK => ?_))
      | (with_reducible refine ev_nil (hK _ _ ?_); clear hK K)
      | (with_reducible refine ed_nil (hK _ _ ?_); clear hK K)
      | ((first | with_reducible refine ev_cons (fun K' hK' => ?_) | with_reducible refine ed_cons (fun K' hK' => ?_) | (with_reducible refine ev_id ?_; refine ev_guard rfl (fun K' hK' => ?_)) | (with_reducible refine ed_id ?_; refine ed_guard rfl (fun K' hK' => ?_))); simp [h9, h0, h1, h2, h3, pairs, ints]; repeat' (first | (with_reducible refine hK' _ _ ?_; clear hK' K') | (with_reducible refine And.intro ?_ ?_) | (with_reducible intro hg) | (clear hK' K'; omega)))
      | (with_reducible refine w_cond (fun A B hA hB => ?_); simp [h9, h0, h1, h2, h3, pairs, ints]; repeat' (first | (with_reducible refine hA ?_; clear hA hB A B) | (with_reducible refine hB ?_; clear hA hB A B) | (with_reducible refine And.intro ?_ ?_) | (with_reducible intro hc)))
      | (with_reducible refine awp_seq ?_))
    refine awp_loop (fun env h' => ∃ k : Nat, k ≤ cost.length ∧ (cost.take k).all costOk = true ∧ env 10 = I k ∧ env 0 = I n ∧ env 1 = pairs arcs ∧ env 2 = ints cost ∧ env 3 = I root ∧ h' = h) (fun env _ => cost.length - natA (env 10)) ?_ ?_
    · exact ⟨0, by omega, by simp, by simp, by simp [h0], by simp [h1], by simp [h2], by simp [h3], rfl⟩
    clear h9 h0 h1 h2 h3
    rintro env h ⟨k, hk, hC, h10, h0, h1, h2, h3, rfl⟩
    have hnat : natA (env 10) = k := by simp [h10]
    rw [hnat]; clear hnat
    by_cases hlt : k < cost.length
    · have hC2 : (cost.take (k + 1)).all costOk = costOk cost[k] := by rw [List.take_succ_eq_append_getElem hlt, List.all_append, hC]; simp
      have hno : costOk cost[k] = false → mayC n arcs cost root = false := by
        intro e
        have : cost.all costOk = false := by rw [List.all_eq_false]; exact ⟨cost[k], by simp, by simp [e]⟩
        simp [mayC, this]
      repeat' (first
        | (with_reducible refine awp_skip ?_)
        | (with_reducible refine then_any ?_)
        | (with_reducible refine then_ret ?_)
        | (with_reducible refine then_exit ?_)
        | (with_reducible refine inBlock_normal ?_)
        | (with_reducible refine inBlock_ret ?_)
        | (with_reducible refine inBlock_hit ?_)
        | (with_reducible refine inBlock_miss (by decide) ?_)
        | (with_reducible refine awp_ret ?_)
        | (with_reducible refine awp_exit ?_)
        | (with_reducible refine post_ret ?_)
        | (with_reducible refine post_normal ?_)
        | (with_reducible refine awp_block ?_)
        | (with_reducible refine v_reg [] (fun K hK => ?_))
        | (with_reducible refine v_reg1 [] (fun K hK => ?_))
        | (with_reducible refine v_draw mixed [] [] (by kernel_rfl) (fun K hK => ?_))
        | (with_reducible refine v_draw1 mixed [] [] (by kernel_rfl) (fun K hK => ?_))
        | (with_reducible refine ev_nil (hK _ _ ?_); clear hK K)
        | (with_reducible refine ed_nil (hK _ _ ?_); clear hK K)
        | ((first | with_reducible refine ev_cons (fun K' hK' => ?_) | with_reducible refine ed_cons (fun K' hK' => ?_) | (with_reducible refine ev_id ?_; refine ev_guard rfl (fun K' hK' => ?_)) | (with_reducible refine ed_id ?_; refine ed_guard rfl (fun K' hK' => ?_))); simp [h10, h0, h1, h2, h3, pairs, ints, hlt]; repeat' (first | (with_reducible refine hK' _ _ ?_; clear hK' K') | (with_reducible refine And.intro ?_ ?_) | (with_reducible intro hg) | (clear hK' K'; omega)))
        | (with_reducible refine w_cond (fun A B hA hB => ?_); simp [h10, h0, h1, h2, h3, pairs, ints, hlt]; repeat' (first | (with_reducible refine hA ?_; clear hA hB A B) | (with_reducible refine hB ?_; clear hA hB A B) | (with_reducible refine And.intro ?_ ?_) | (with_reducible intro hc)))
        | (with_reducible refine awp_seq ?_))
      all_goals first
        | exact ⟨⟨k + 1, by omega, by rw [hC2]; simp [costOk]; omega, by simp, by simp [h0], by simp [h1], by simp [h2], by simp [h3], rfl⟩, by simp; omega⟩
        | (rw [hno (by simp [costOk]; omega)]; simp)
    · have : k = cost.length := by omega
      subst this
      rw [List.take_length] at hC
      repeat' (first
        | (with_reducible refine awp_skip ?_)
        | (with_reducible refine then_any ?_)
        | (with_reducible refine then_ret ?_)
        | (with_reducible refine then_exit ?_)
        | (with_reducible refine inBlock_normal ?_)
        | (with_reducible refine inBlock_ret ?_)
        | (with_reducible refine inBlock_hit ?_)
        | (with_reducible refine inBlock_miss (by decide) ?_)
        | (with_reducible refine awp_ret ?_)
        | (with_reducible refine awp_exit ?_)
        | (with_reducible refine post_ret ?_)
        | (with_reducible refine post_normal ?_)
        | (with_reducible refine awp_block ?_)
        | (with_reducible refine v_reg [] (fun K hK => ?_))
        | (with_reducible refine v_reg1 [] (fun K hK => ?_))
        | (with_reducible refine v_draw mixed [] [] (by kernel_rfl) (fun K hK => ?_))
        | (with_reducible refine v_draw1 mixed [] [] (by kernel_rfl) (fun K hK => ?_))
        | (with_reducible refine ev_nil (hK _ _ ?_); clear hK K)
        | (with_reducible refine ed_nil (hK _ _ ?_); clear hK K)
        | ((first | with_reducible refine ev_cons (fun K' hK' => ?_) | with_reducible refine ed_cons (fun K' hK' => ?_) | (with_reducible refine ev_id ?_; refine ev_guard rfl (fun K' hK' => ?_)) | (with_reducible refine ed_id ?_; refine ed_guard rfl (fun K' hK' => ?_))); simp [h10, h0, h1, h2, h3, pairs, ints]; repeat' (first | (with_reducible refine hK' _ _ ?_; clear hK' K') | (with_reducible refine And.intro ?_ ?_) | (with_reducible intro hg) | (clear hK' K'; omega)))
        | (with_reducible refine w_cond (fun A B hA hB => ?_); simp [h10, h0, h1, h2, h3, pairs, ints]; repeat' (first | (with_reducible refine hA ?_; clear hA hB A B) | (with_reducible refine hB ?_; clear hA hB A B) | (with_reducible refine And.intro ?_ ?_) | (with_reducible intro hc)))
        | (with_reducible refine awp_seq ?_))
      all_goals (refine ⟨?_, .refl _⟩; simp [mayC, mayA, hE, hC])
      all_goals first | omega | (rw [Bool.eq_iff_iff]; simp; omega)

theorem acalls_frz3 {f : FuncId} {x y : AV} {post : List AV} {H : Heap} {K : AV → Heap → Prop} {r off len top es : Nat} {e : TypeId} {cells : List AV} (hr : H r = none)
    (h : ACalls Try.prog w0 f (x :: y :: cut es cells off len :: post) H K) : ACalls Try.prog w0 f (x :: y :: .ref r off len top :: post) (upd H r (some (.arr es e cells top))) K :=
  acalls_frzG (pre := [x, y]) (upd_same _ _ _) (by rw [upd_upd, upd_none_self hr]; exact h)

theorem mayC_zero {n root : Int} {arcs : List (Int × Int)} : mayC n arcs (List.replicate arcs.length 0) root = mayA n arcs root := by
  simp [mayC, costOk]

def mayK (n : Int) (arcs : List (Int × Int)) (root k : Int) : Bool := mayA n arcs root && decide (1 ≤ k) && decide (k ≤ 8)
theorem arcsMay_ret {n root k : Int} {arcs : List (Int × Int)} (ha : smLen arcs) : Ret Try.prog w0 20 [I n, pairs arcs, I root, I k] (B (mayK n arcs root k)) := by
  intro H
  have hm := arborMay_ret (w0 := w0) (n := n) (root := root) (arcs := arcs) (cost := List.replicate arcs.length 0) (by simp only [okLen, smLen] at *; omega) (by simp only [okLen, smLen, List.length_replicate] at *; omega)
  rw [mayC_zero] at hm
  simp only [ints, List.map_replicate, List.length_replicate] at hm
  refine w_enter Try.func20 rfl Try.ntmps20 (ts := [8]) rfl (by simp) (by kernel_rfl) ?_
  repeat' (first
    | (with_reducible refine awp_skip ?_)
    | (with_reducible refine then_any ?_)
    | (with_reducible refine then_ret ?_)
    | (with_reducible refine then_exit ?_)
    | (with_reducible refine inBlock_normal ?_)
    | (with_reducible refine inBlock_ret ?_)
    | (with_reducible refine inBlock_hit ?_)
    | (with_reducible refine inBlock_miss (by decide) ?_)
    | (with_reducible refine awp_ret ?_)
    | (with_reducible refine awp_exit ?_)
    | (with_reducible refine post_ret ?_)
    | (with_reducible refine post_normal ?_)
    | (with_reducible refine awp_block ?_)
    | (with_reducible refine v_reg [] (fun K hK => ?_))
    | (with_reducible refine v_reg1 [] (fun K hK => ?_))
    | (with_reducible refine v_draw mixed [] [] (by kernel_rfl) (fun K hK => ?_))
    | (with_reducible refine v_draw1 mixed [] [] (by kernel_rfl) (fun K hK => ?_))
    | (with_reducible refine ev_nil (hK _ _ ?_); clear hK K)
    | (with_reducible refine ed_nil (hK _ _ ?_); clear hK K)
    | ((first | with_reducible refine ev_cons (fun K' hK' => ?_) | with_reducible refine ed_cons (fun K' hK' => ?_) | (with_reducible refine ev_id ?_; refine ev_guard rfl (fun K' hK' => ?_)) | (with_reducible refine ed_id ?_; refine ed_guard rfl (fun K' hK' => ?_))); simp [pairs]; repeat' (first | (with_reducible refine hK' _ _ ?_; clear hK' K') | ((with_reducible refine acalls_frz3 (by assumption) ?_; rw [cut_all (by simp)]; with_reducible refine Ret.use hm ?_); try simp [pairs]) | (with_reducible refine And.intro ?_ ?_) | (with_reducible intro hg) | (clear hK' K'; omega)))
    | (with_reducible refine w_cond (fun A B hA hB => ?_); simp [pairs]; repeat' (first | (with_reducible refine hA ?_; clear hA hB A B) | (with_reducible refine hB ?_; clear hA hB A B) | (with_reducible refine And.intro ?_ ?_) | (with_reducible intro hc)))
    | (with_reducible refine awp_seq ?_))
  all_goals (simp [mayK, *] <;> omega)
theorem may20_ret {n root k : Int} {arcs : List (Int × Int)} (ha : smLen arcs) : Ret Try.prog w0 21 [I n, pairs arcs, I root, I k] (B (mayK n arcs root k)) := by
  intro H
  have hm := may19_ret (w0 := w0) (n := n) (root := root) (arcs := arcs) (cost := List.replicate arcs.length 0) (by simp only [okLen, smLen] at *; omega) (by simp only [okLen, smLen, List.length_replicate] at *; omega)
  rw [mayC_zero] at hm
  simp only [ints, List.map_replicate, List.length_replicate] at hm
  refine w_enter Try.func21 rfl Try.ntmps21 (ts := [8]) rfl (by simp) (by kernel_rfl) ?_
  repeat' (first
    | (with_reducible refine awp_skip ?_)
    | (with_reducible refine then_any ?_)
    | (with_reducible refine then_ret ?_)
    | (with_reducible refine then_exit ?_)
    | (with_reducible refine inBlock_normal ?_)
    | (with_reducible refine inBlock_ret ?_)
    | (with_reducible refine inBlock_hit ?_)
    | (with_reducible refine inBlock_miss (by decide) ?_)
    | (with_reducible refine awp_ret ?_)
    | (with_reducible refine awp_exit ?_)
    | (with_reducible refine post_ret ?_)
    | (with_reducible refine post_normal ?_)
    | (with_reducible refine awp_block ?_)
    | (with_reducible refine v_reg [] (fun K hK => ?_))
    | (with_reducible refine v_reg1 [] (fun K hK => ?_))
    | (with_reducible refine v_draw mixed [] [] (by kernel_rfl) (fun K hK => ?_))
    | (with_reducible refine v_draw1 mixed [] [] (by kernel_rfl) (fun K hK => ?_))
    | (with_reducible refine ev_nil (hK _ _ ?_); clear hK K)
    | (with_reducible refine ed_nil (hK _ _ ?_); clear hK K)
    | ((first | with_reducible refine ev_cons (fun K' hK' => ?_) | with_reducible refine ed_cons (fun K' hK' => ?_) | (with_reducible refine ev_id ?_; refine ev_guard rfl (fun K' hK' => ?_)) | (with_reducible refine ed_id ?_; refine ed_guard rfl (fun K' hK' => ?_))); simp [pairs]; repeat' (first | (with_reducible refine hK' _ _ ?_; clear hK' K') | ((with_reducible refine acalls_frz3 (by assumption) ?_; rw [cut_all (by simp)]; with_reducible refine Ret.use hm ?_); try simp [pairs]) | (with_reducible refine And.intro ?_ ?_) | (with_reducible intro hg) | (clear hK' K'; omega)))
    | (with_reducible refine w_cond (fun A B hA hB => ?_); simp [pairs]; repeat' (first | (with_reducible refine hA ?_; clear hA hB A B) | (with_reducible refine hB ?_; clear hA hB A B) | (with_reducible refine And.intro ?_ ?_) | (with_reducible intro hc)))
    | (with_reducible refine awp_seq ?_))
  all_goals (simp [mayK, *] <;> omega)

theorem mayA_net {n root : Int} {arcs : List (Int × Int)} (h : mayA n arcs root = true) : ∃ m : Nat, n = m ∧ 1 ≤ m ∧ NetA m arcs root := by
  simp only [mayA, Bool.and_eq_true, decide_eq_true_eq] at h
  obtain ⟨⟨⟨⟨⟨a1, a2⟩, a3⟩, a4⟩, a5⟩, a6⟩ := h
  refine ⟨n.toNat, by omega, by omega, by omega, a3, ⟨a4, by omega⟩, fun i h0 h1 => ?_⟩
  have hi : i.toNat < arcs.length := by omega
  have := List.all_eq_true.1 a6 arcs[i.toNat] (List.getElem_mem _)
  have e1 : arcs[i.toNat].1 = tlA arcs i := by simp [tlA, hi]
  have e2 : arcs[i.toNat].2 = hdA arcs i := by simp [hdA, hi]
  simp only [edgeOk, Bool.and_eq_true, decide_eq_true_eq] at this
  omega
end Go.Am
