/- Contracts: the law JoinMore. -/
import Derived.Test.YtbcgjjkchmgeoaaW12
namespace Go.Am
open Go Go.Proofs
set_option linter.unusedVariables false
set_option linter.unusedSimpArgs false
variable {w0 : World}
attribute [local irreducible] AWP ACalls
attribute [local congr] acalls_congr

theorem valid_app {n : Int} {a b : List (Int × Int)} (ha : validG n a = true) (hb : validG n b = true) (hl : a.length + b.length ≤ 100) : validG n (a ++ b) = true := by
  rw [valid_iff] at *
  refine ⟨ha.1, by simp; omega, fun e he => ?_⟩
  rcases List.mem_append.1 he with h | h
  · exact ha.2.2 e h
  · exact hb.2.2 e h

theorem joinMore_ret {n : Int} {a b : List (Int × Int)} (ha0 : a.length ≤ 17592186044416) (hb0 : b.length ≤ 17592186044416) : Ret Try.prog w0 7 [I n, pairs a, pairs b] (B true) := by
  intro H
  have ha : okLen a := by omega
  have hb : okLen b := by omega
  have hal := pairs_len a
  have hbl := pairs_len b
  refine w_enter Try.func7 rfl Try.ntmps7 (ts := [6]) rfl (by simp) (by kernel_rfl) ?_
  by_cases hbig : 100 < a.length + b.length
  · have hbig' : (100 : Int) < (a.length : Int) + b.length := by omega
    repeat' (first
      | (with_reducible refine awp_skip ?_)
      | (with_reducible refine then_any ?_)
      | (with_reducible refine then_ret ?_)
      | (with_reducible refine then_exit ?_)
      | (with_reducible refine inBlock_normal ?_)
      | (with_reducible refine inBlock_ret ?_)
      | (with_reducible refine inBlock_hit ?_)
      | (with_reducible refine inBlock_miss (by decide) ?_)
      | (with_reducible refine awp_ret ?_)
      | (with_reducible refine awp_exit ?_)
      | (with_reducible refine post_ret ?_)
      | (with_reducible refine post_normal ?_)
      | (with_reducible refine awp_block ?_)
      | (with_reducible refine v_reg [] (fun K hK => ?_))
      | (with_reducible refine v_reg1 [] (fun K hK => ?_))
      | (with_reducible refine v_draw mixed [] [] (by kernel_rfl) (fun K hK => ?_))
      | (with_reducible refine v_draw1 mixed [] [] (by kernel_rfl) (fun K hK => ?_))
      | (with_reducible refine ev_nil (hK _ _ ?_); clear hK K)
      | (with_reducible refine ed_nil (hK _ _ ?_); clear hK K)
      | ((first | with_reducible refine ev_cons (fun K' hK' => ?_) | with_reducible refine ed_cons (fun K' hK' => ?_) | (with_reducible refine ev_id ?_; refine ev_guard rfl (fun K' hK' => ?_)) | (with_reducible refine ed_id ?_; refine ed_guard rfl (fun K' hK' => ?_))); simp [pairs, hbig']; repeat' (first | (with_reducible refine hK' _ _ ?_; clear hK' K') | (with_reducible refine Ret.use fixed3_ret ?_; try simp [pairs, hbig']) | (with_reducible refine And.intro ?_ ?_) | (with_reducible intro hg) | (clear hK' K'; omega)))
      | (with_reducible refine w_cond (fun A B hA hB => ?_); simp [pairs, hbig']; repeat' (first | (with_reducible refine hA ?_; clear hA hB A B) | (with_reducible refine hB ?_; clear hA hB A B) | (with_reducible refine And.intro ?_ ?_) | (with_reducible intro hc)))
      | (with_reducible refine awp_seq ?_))
    all_goals first | omega | simp
  have hbig' : ¬ (100 : Int) < (a.length : Int) + b.length := by omega
  cases hva : validG n a with
  | false =>
    repeat' (first
      | (with_reducible refine awp_skip ?_)
      | (with_reducible refine then_any ?_)
      | (with_reducible refine then_ret ?_)
      | (with_reducible refine then_exit ?_)
      | (with_reducible refine inBlock_normal ?_)
      | (with_reducible refine inBlock_ret ?_)
      | (with_reducible refine inBlock_hit ?_)
      | (with_reducible refine inBlock_miss (by decide) ?_)
      | (with_reducible refine awp_ret ?_)
      | (with_reducible refine awp_exit ?_)
      | (with_reducible refine post_ret ?_)
      | (with_reducible refine post_normal ?_)
      | (with_reducible refine awp_block ?_)
      | (with_reducible refine v_reg [] (fun K hK => ?_))
      | (with_reducible refine v_reg1 [] (fun K hK => ?_))
      | (with_reducible refine v_draw mixed [] [] (by kernel_rfl) (fun K hK => ?_))
      | (with_reducible refine v_draw1 mixed [] [] (by kernel_rfl) (fun K hK => ?_))
      | (with_reducible refine ev_nil (hK _ _ ?_); clear hK K)
      | (with_reducible refine ed_nil (hK _ _ ?_); clear hK K)
      | ((first | with_reducible refine ev_cons (fun K' hK' => ?_) | with_reducible refine ed_cons (fun K' hK' => ?_) | (with_reducible refine ev_id ?_; refine ev_guard rfl (fun K' hK' => ?_)) | (with_reducible refine ed_id ?_; refine ed_guard rfl (fun K' hK' => ?_))); simp [pairs, hbig', hva]; repeat' (first | (with_reducible refine hK' _ _ ?_; clear hK' K') | (with_reducible refine Ret.use fixed3_ret ?_; try simp [pairs, hbig', hva]) | (with_reducible refine Ret.use (graph_ret ha) ?_; try simp [pairs, hbig', hva]) | (with_reducible refine Ret.use (graph_ret hb) ?_; try simp [pairs, hbig', hva]) | (with_reducible refine And.intro ?_ ?_) | (with_reducible intro hg) | (clear hK' K'; omega)))
      | (with_reducible refine w_cond (fun A B hA hB => ?_); simp [pairs, hbig', hva]; repeat' (first | (with_reducible refine hA ?_; clear hA hB A B) | (with_reducible refine hB ?_; clear hA hB A B) | (with_reducible refine And.intro ?_ ?_) | (with_reducible intro hc)))
      | (with_reducible refine awp_seq ?_))
    all_goals first | omega | simp
  | true =>
  cases hvb : validG n b with
  | false =>
    repeat' (first
      | (with_reducible refine awp_skip ?_)
      | (with_reducible refine then_any ?_)
      | (with_reducible refine then_ret ?_)
      | (with_reducible refine then_exit ?_)
      | (with_reducible refine inBlock_normal ?_)
      | (with_reducible refine inBlock_ret ?_)
      | (with_reducible refine inBlock_hit ?_)
      | (with_reducible refine inBlock_miss (by decide) ?_)
      | (with_reducible refine awp_ret ?_)
      | (with_reducible refine awp_exit ?_)
      | (with_reducible refine post_ret ?_)
      | (with_reducible refine post_normal ?_)
      | (with_reducible refine awp_block ?_)
      | (with_reducible refine v_reg [] (fun K hK => ?_))
      | (with_reducible refine v_reg1 [] (fun K hK => ?_))
      | (with_reducible refine v_draw mixed [] [] (by kernel_rfl) (fun K hK => ?_))
      | (with_reducible refine v_draw1 mixed [] [] (by kernel_rfl) (fun K hK => ?_))
      | (with_reducible refine ev_nil (hK _ _ ?_); clear hK K)
      | (with_reducible refine ed_nil (hK _ _ ?_); clear hK K)
      | ((first | with_reducible refine ev_cons (fun K' hK' => ?_) | with_reducible refine ed_cons (fun K' hK' => ?_) | (with_reducible refine ev_id ?_; refine ev_guard rfl (fun K' hK' => ?_)) | (with_reducible refine ed_id ?_; refine ed_guard rfl (fun K' hK' => ?_))); simp [pairs, hbig', hva, hvb]; repeat' (first | (with_reducible refine hK' _ _ ?_; clear hK' K') | (with_reducible refine Ret.use fixed3_ret ?_; try simp [pairs, hbig', hva, hvb]) | (with_reducible refine Ret.use (graph_ret ha) ?_; try simp [pairs, hbig', hva, hvb]) | (with_reducible refine Ret.use (graph_ret hb) ?_; try simp [pairs, hbig', hva, hvb]) | (with_reducible refine And.intro ?_ ?_) | (with_reducible intro hg) | (clear hK' K'; omega)))
      | (with_reducible refine w_cond (fun A B hA hB => ?_); simp [pairs, hbig', hva, hvb]; repeat' (first | (with_reducible refine hA ?_; clear hA hB A B) | (with_reducible refine hB ?_; clear hA hB A B) | (with_reducible refine And.intro ?_ ?_) | (with_reducible intro hc)))
      | (with_reducible refine awp_seq ?_))
    all_goals first | omega | simp
  | true =>
  have hvab := valid_app hva hvb (by omega)
  have hcab := compJ_comp (a ++ b)
  have hro1 := rank_app a b
  have hro2 := rank_app' (n := n.toNat) (a := a) (b := b) (belowE_of (by obtain ⟨m, rfl, _⟩ := valid_nat hva; simpa using hvab))
  have hro3 := rank_sub a b
  have hla := compJ_le a
  have hlb := compJ_le b
  have habo : okLen (a ++ b) := by rw [okLen]; simp; omega
  obtain ⟨m, rfl, hm1, hm2, hm3⟩ := valid_nat hva
  have hcut : cut 2 ((a.flatMap fun e => [I e.1, I e.2]).take (a.length * 2) ++ (b.flatMap fun e => [I e.1, I e.2]).take (b.length * 2)) 0 (a.length + b.length) = pairs (a ++ b) := by
    rw [List.take_of_length_le (by omega), List.take_of_length_le (by omega), ← List.flatMap_append]
    exact cut_pairs _ (by simp)
  repeat' (first
    | (with_reducible refine awp_skip ?_)
    | (with_reducible refine then_any ?_)
    | (with_reducible refine then_ret ?_)
    | (with_reducible refine then_exit ?_)
    | (with_reducible refine inBlock_normal ?_)
    | (with_reducible refine inBlock_ret ?_)
    | (with_reducible refine inBlock_hit ?_)
    | (with_reducible refine inBlock_miss (by decide) ?_)
    | (with_reducible refine awp_ret ?_)
    | (with_reducible refine awp_exit ?_)
    | (with_reducible refine post_ret ?_)
    | (with_reducible refine post_normal ?_)
    | (with_reducible refine awp_block ?_)
    | ((fail_if_success (with_reducible refine at_reg 4 ?_)); with_reducible refine v_reg [37] (fun K hK => ?_))
    | (with_reducible refine v_reg1 [37] (fun K hK => ?_))
    | ((fail_if_success (with_reducible refine at_reg 4 ?_)); with_reducible refine v_draw mixed [37] [] (by kernel_rfl) (fun K hK => ?_))
    | (with_reducible refine v_draw1 mixed [37] [] (by kernel_rfl) (fun K hK => ?_))
    | (with_reducible refine ev_nil (hK _ _ ?_); clear hK K)
    | (with_reducible refine ed_nil (hK _ _ ?_); clear hK K)
    | ((first | with_reducible refine ev_cons (fun K' hK' => ?_) | with_reducible refine ed_cons (fun K' hK' => ?_) | (with_reducible refine ev_id ?_; refine ev_guard rfl (fun K' hK' => ?_)) | (with_reducible refine ed_id ?_; refine ed_guard rfl (fun K' hK' => ?_))); simp [pairs, hbig', hva, hvb, hal, hbl]; repeat' (first | (with_reducible refine hK' _ _ ?_; clear hK' K') | (with_reducible refine Ret.use fixed3_ret ?_; try simp [pairs, hbig', hva, hvb, hal, hbl]) | (with_reducible refine Ret.use (graph_ret ha) ?_; try simp [pairs, hbig', hva, hvb, hal, hbl]) | (with_reducible refine Ret.use (graph_ret hb) ?_; try simp [pairs, hbig', hva, hvb, hal, hbl]) | (with_reducible refine And.intro ?_ ?_) | (with_reducible intro hg) | (clear hK' K'; omega)))
    | (with_reducible refine w_cond (fun A B hA hB => ?_); simp [pairs, hbig', hva, hvb, hal, hbl]; repeat' (first | (with_reducible refine hA ?_; clear hA hB A B) | (with_reducible refine hB ?_; clear hA hB A B) | (with_reducible refine And.intro ?_ ?_) | (with_reducible intro hc)))
    | ((fail_if_success (with_reducible refine at_reg 4 ?_)); with_reducible refine awp_seq ?_))
  rename_i r
  have hr : H r = none := hg
  clear hg
  refine awp_frz 7 (by simp) hr fun env he he2 => ?_
  rw [hcut] at he
  have g0 : env 0 = I (m : Int) := by rw [he2 _ (by decide)]; simp
  have g1 : env 1 = pairs a := by rw [he2 _ (by decide)]; simp [pairs]
  have g2 : env 2 = pairs b := by rw [he2 _ (by decide)]; simp [pairs]
  clear he2
  have habl : (a ++ b).length = a.length + b.length := by simp
  have hsame : ∀ k, (compJ (a ++ b)).1 ((compJ a).1 k) = (compJ (a ++ b)).1 k := fun k => (compJ_comp a).min (compJ (a ++ b)).1 (fun e he => hcab.edge e (by simp [he])) k
  have hclt : ∀ k, k < m → (compJ a).1 k < m := fun k h => c_lt a h
  generalize a ++ b = both at *
  repeat' (first
    | (with_reducible refine awp_skip ?_)
    | (with_reducible refine then_any ?_)
    | (with_reducible refine then_ret ?_)
    | (with_reducible refine then_exit ?_)
    | (with_reducible refine inBlock_normal ?_)
    | (with_reducible refine inBlock_ret ?_)
    | (with_reducible refine inBlock_hit ?_)
    | (with_reducible refine inBlock_miss (by decide) ?_)
    | (with_reducible refine awp_ret ?_)
    | (with_reducible refine awp_exit ?_)
    | (with_reducible refine post_ret ?_)
    | (with_reducible refine post_normal ?_)
    | (with_reducible refine awp_block ?_)
    | (with_reducible refine v_reg [] (fun K hK => ?_))
    | (with_reducible refine v_reg1 [] (fun K hK => ?_))
    | (with_reducible refine v_draw mixed [] [] (by kernel_rfl) (fun K hK => ?_))
    | (with_reducible refine v_draw1 mixed [] [] (by kernel_rfl) (fun K hK => ?_))
    | (with_reducible refine ev_nil (hK _ _ ?_); clear hK K)
    | (with_reducible refine ed_nil (hK _ _ ?_); clear hK K)
    | ((first | with_reducible refine ev_cons (fun K' hK' => ?_) | with_reducible refine ed_cons (fun K' hK' => ?_) | (with_reducible refine ev_id ?_; refine ev_guard rfl (fun K' hK' => ?_)) | (with_reducible refine ed_id ?_; refine ed_guard rfl (fun K' hK' => ?_))); simp [he, g0, g1, g2, compsL, okE, hva, hvab]; repeat' (first | (with_reducible refine hK' _ _ ?_; clear hK' K') | (with_reducible refine Ret.use fixed3_ret ?_; try simp [he, g0, g1, g2, compsL, okE, hva, hvab]) | (with_reducible refine Ret.use (comps_ret ha) ?_; try simp [he, g0, g1, g2, compsL, okE, hva, hvab]) | (with_reducible refine Ret.use (comps_ret habo) ?_; try simp [he, g0, g1, g2, compsL, okE, hva, hvab]) | (with_reducible refine And.intro ?_ ?_) | (with_reducible intro hg) | (clear hK' K'; omega)))
    | (with_reducible refine w_cond (fun A B hA hB => ?_); simp [he, g0, g1, g2, compsL, okE, hva, hvab]; repeat' (first | (with_reducible refine hA ?_; clear hA hB A B) | (with_reducible refine hB ?_; clear hA hB A B) | (with_reducible refine And.intro ?_ ?_) | (with_reducible intro hc)))
    | (with_reducible refine awp_seq ?_))
  all_goals try omega
  refine awp_loop (fun env h => ∃ k : Nat, k ≤ m ∧ env 12 = I k ∧ env 0 = I m ∧ env 1 = pairs a ∧ env 2 = pairs b ∧ env 7 = pairs both ∧ env 8 = .sl ((List.range m).map fun w => I ((compJ a).1 w : Int)) m ∧ env 10 = .sl ((List.range m).map fun w => I ((compJ both).1 w : Int)) m ∧ h = H) (fun env _ => m - natA (env 12)) ?_ ?_
  · exact ⟨0, by omega, by simp, by simp [g0], by simp [g1, pairs], by simp [g2, pairs], by simp [he, pairs], by simp, by simp, rfl⟩
  clear g0 g1 g2 he
  rintro env h ⟨k, hk, h12, h0, h1, h2, h7, h8, h10, rfl⟩
  have hnat : natA (env 12) = k := by simp [h12]
  rw [hnat]; clear hnat
  by_cases hlt : k < m
  · have hcl := hclt k hlt
    have hsm := hsame k
    repeat' (first
      | (with_reducible refine awp_skip ?_)
      | (with_reducible refine then_any ?_)
      | (with_reducible refine then_ret ?_)
      | (with_reducible refine then_exit ?_)
      | (with_reducible refine inBlock_normal ?_)
      | (with_reducible refine inBlock_ret ?_)
      | (with_reducible refine inBlock_hit ?_)
      | (with_reducible refine inBlock_miss (by decide) ?_)
      | (with_reducible refine awp_ret ?_)
      | (with_reducible refine awp_exit ?_)
      | (with_reducible refine post_ret ?_)
      | (with_reducible refine post_normal ?_)
      | (with_reducible refine awp_block ?_)
      | (with_reducible refine v_reg [] (fun K hK => ?_))
      | (with_reducible refine v_reg1 [] (fun K hK => ?_))
      | (with_reducible refine v_draw mixed [] [] (by kernel_rfl) (fun K hK => ?_))
      | (with_reducible refine v_draw1 mixed [] [] (by kernel_rfl) (fun K hK => ?_))
      | (with_reducible refine ev_nil (hK _ _ ?_); clear hK K)
      | (with_reducible refine ed_nil (hK _ _ ?_); clear hK K)
      | ((first | with_reducible refine ev_cons (fun K' hK' => ?_) | with_reducible refine ed_cons (fun K' hK' => ?_) | (with_reducible refine ev_id ?_; refine ev_guard rfl (fun K' hK' => ?_)) | (with_reducible refine ed_id ?_; refine ed_guard rfl (fun K' hK' => ?_))); simp [h12, h0, h1, h2, h7, h8, h10, pairs, hlt, hcl, hsm]; repeat' (first | (with_reducible refine hK' _ _ ?_; clear hK' K') | (with_reducible refine And.intro ?_ ?_) | (with_reducible intro hg) | (clear hK' K'; omega)))
      | (with_reducible refine w_cond (fun A B hA hB => ?_); simp [h12, h0, h1, h2, h7, h8, h10, pairs, hlt, hcl, hsm]; repeat' (first | (with_reducible refine hA ?_; clear hA hB A B) | (with_reducible refine hB ?_; clear hA hB A B) | (with_reducible refine And.intro ?_ ?_) | (with_reducible intro hc)))
      | (with_reducible refine awp_seq ?_))
    all_goals first | (exfalso; omega) | exact ⟨⟨k + 1, by omega, by simp, by simp [h0], by simp [h1], by simp [h2], by simp [h7], by simp [h8], by simp [h10], rfl⟩, by simp; omega⟩
  · have : k = m := by omega
    subst this
    repeat' (first
      | (with_reducible refine awp_skip ?_)
      | (with_reducible refine then_any ?_)
      | (with_reducible refine then_ret ?_)
      | (with_reducible refine then_exit ?_)
      | (with_reducible refine inBlock_normal ?_)
      | (with_reducible refine inBlock_ret ?_)
      | (with_reducible refine inBlock_hit ?_)
      | (with_reducible refine inBlock_miss (by decide) ?_)
      | (with_reducible refine awp_ret ?_)
      | (with_reducible refine awp_exit ?_)
      | (with_reducible refine post_ret ?_)
      | (with_reducible refine post_normal ?_)
      | (with_reducible refine awp_block ?_)
      | (with_reducible refine v_reg [] (fun K hK => ?_))
      | (with_reducible refine v_reg1 [] (fun K hK => ?_))
      | (with_reducible refine v_draw mixed [] [] (by kernel_rfl) (fun K hK => ?_))
      | (with_reducible refine v_draw1 mixed [] [] (by kernel_rfl) (fun K hK => ?_))
      | (with_reducible refine ev_nil (hK _ _ ?_); clear hK K)
      | (with_reducible refine ed_nil (hK _ _ ?_); clear hK K)
      | ((first | with_reducible refine ev_cons (fun K' hK' => ?_) | with_reducible refine ed_cons (fun K' hK' => ?_) | (with_reducible refine ev_id ?_; refine ev_guard rfl (fun K' hK' => ?_)) | (with_reducible refine ed_id ?_; refine ed_guard rfl (fun K' hK' => ?_))); simp [h12, h0, h1, h2, h7, h8, h10, pairs, hva, hvb, hvab]; repeat' (first | (with_reducible refine hK' _ _ ?_; clear hK' K') | (with_reducible refine Ret.use (rank_ret ha) ?_; try simp [h12, h0, h1, h2, h7, h8, h10, pairs, hva, hvb, hvab]) | (with_reducible refine Ret.use (rank_ret hb) ?_; try simp [h12, h0, h1, h2, h7, h8, h10, pairs, hva, hvb, hvab]) | (with_reducible refine Ret.use (rank_ret habo) ?_; try simp [h12, h0, h1, h2, h7, h8, h10, pairs, hva, hvb, hvab]) | (with_reducible refine And.intro ?_ ?_) | (with_reducible intro hg) | (clear hK' K'; omega)))
      | (with_reducible refine w_cond (fun A B hA hB => ?_); simp [h12, h0, h1, h2, h7, h8, h10, pairs, hva, hvb, hvab]; repeat' (first | (with_reducible refine hA ?_; clear hA hB A B) | (with_reducible refine hB ?_; clear hA hB A B) | (with_reducible refine And.intro ?_ ?_) | (with_reducible intro hc)))
      | (with_reducible refine awp_seq ?_))
    all_goals (try simp)
    all_goals (try omega)
#print axioms joinMore_ret
end Go.Am
