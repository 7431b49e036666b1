/- Contracts: the laws JoinOrder, JoinMore. -/
import Derived.Test.YtbcgjjkchmgeoaaW11
import Derived.Test.YtbcgjjkchmgeoaaM2
namespace Go.Am
open Go Go.Proofs
set_option linter.unusedVariables false
set_option linter.unusedSimpArgs false
variable {w0 : World}
attribute [local irreducible] AWP ACalls
attribute [local congr] acalls_congr

/-- The number in a slot, and one. -/
def natA1 : AV → Nat
  | .sc (.int _ n) => (n + 1).toNat
  | _ => 0
attribute [simp] natA1

/-- Edges from the last one on, each turned round, and as it is. -/
def revE : List (Int × Int) → List (Int × Int)
  | [] => []
  | e :: es => revE es ++ [(e.2, e.1), e]
theorem revE_length (es : List (Int × Int)) : (revE es).length = 2 * es.length := by
  induction es with
  | nil => rfl
  | cons e es ih => simp [revE, ih]; omega
theorem mem_revE {x : Int × Int} {es : List (Int × Int)} : x ∈ revE es ↔ x ∈ es ∨ (x.2, x.1) ∈ es := by
  induction es with
  | nil => simp [revE]
  | cons e es ih =>
    simp only [revE, List.mem_append, ih, List.mem_cons, List.not_mem_nil, or_false, Prod.ext_iff]
    constructor
    · rintro ((h | h) | h | h)
      · exact .inl (.inr h)
      · exact .inr (.inr h)
      · exact .inr (.inl ⟨h.2, h.1⟩)
      · exact .inl (.inl h)
    · rintro ((h | h) | h | h)
      · exact .inr (.inr h)
      · exact .inl (.inl h)
      · exact .inr (.inl ⟨h.2, h.1⟩)
      · exact .inl (.inr h)

theorem valid_iff {n : Int} {es : List (Int × Int)} : validG n es = true ↔ (1 ≤ n ∧ n ≤ 64) ∧ es.length ≤ 4096 ∧ ∀ e ∈ es, 0 ≤ e.1 ∧ 0 ≤ e.2 ∧ e.1 < n ∧ e.2 < n := by
  simp only [validG, Bool.and_eq_true, decide_eq_true_eq, List.all_eq_true, edgeOk]
  constructor
  · rintro ⟨⟨⟨h1, h2⟩, h3⟩, h4⟩
    exact ⟨⟨h1, h2⟩, h3, fun e he => by have := h4 e he; omega⟩
  · rintro ⟨⟨h1, h2⟩, h3, h4⟩
    exact ⟨⟨⟨h1, h2⟩, h3⟩, fun e he => by have := h4 e he; omega⟩

theorem valid_back {n v : Int} {es : List (Int × Int)} (h : validG n es = true) (hl : es.length ≤ 100) (hv : 0 ≤ v ∧ v < n) : validG n ((v, v) :: revE es) = true := by
  rw [valid_iff] at h ⊢
  refine ⟨h.1, by simp [revE_length]; omega, fun e he => ?_⟩
  rcases List.mem_cons.1 he with rfl | he
  · simp; omega
  · rcases mem_revE.1 he with he | he
    · exact h.2.2 e he
    · have := h.2.2 _ he; simp only at this; omega

theorem comp_back {v : Int} {es : List (Int × Int)} : (compJ ((v, v) :: revE es)).1 = (compJ es).1 := by
  refine (compJ_comp _).uniq (compJ_comp _) (fun e he => ?_) (fun e he => (compJ_comp _).edge e (by simp [mem_revE, he]))
  rcases List.mem_cons.1 he with rfl | he
  · rfl
  · rcases mem_revE.1 he with he | he
    · exact (compJ_comp es).edge e he
    · exact ((compJ_comp es).edge _ he).symm

theorem rank_back {n v : Int} {es : List (Int × Int)} (h : validG n es = true) (hl : es.length ≤ 100) (hv : 0 ≤ v ∧ v < n) : (compJ ((v, v) :: revE es)).2 = (compJ es).2 := by
  have h1 := compJ_roots es (belowE_of (n := n.toNat) (by obtain ⟨m, rfl, _⟩ := valid_nat h; simpa using h))
  have h2 := compJ_roots ((v, v) :: revE es) (belowE_of (n := n.toNat) (by have := valid_back h hl hv; obtain ⟨m, rfl, _⟩ := valid_nat h; simpa using this))
  rw [comp_back] at h2
  omega

theorem joinOrder_ret {n v : Int} {es : List (Int × Int)} (he : okLen es) : Ret Try.prog w0 5 [I n, pairs es, I v] (B true) := by
  intro H
  refine w_enter Try.func5 rfl Try.ntmps5 (ts := [6]) rfl (by simp) (by kernel_rfl) ?_
  repeat' (first
    | (with_reducible refine awp_skip ?_)
    | (with_reducible refine then_any ?_)
    | (with_reducible refine then_ret ?_)
    | (with_reducible refine then_exit ?_)
    | (with_reducible refine inBlock_normal ?_)
    | (with_reducible refine inBlock_ret ?_)
    | (with_reducible refine inBlock_hit ?_)
    | (with_reducible refine inBlock_miss (by decide) ?_)
    | (with_reducible refine awp_ret ?_)
    | (with_reducible refine awp_exit ?_)
    | (with_reducible refine post_ret ?_)
    | (with_reducible refine post_normal ?_)
    | (with_reducible refine awp_block ?_)
    | ((fail_if_success (with_reducible refine at_reg 5 ?_)); with_reducible refine v_reg [39] (fun K hK => ?_))
    | (with_reducible refine v_reg1 [39] (fun K hK => ?_))
    | ((fail_if_success (with_reducible refine at_reg 5 ?_)); with_reducible refine v_draw mixed [39] [] (by kernel_rfl) (fun K hK => ?_))
    | (with_reducible refine v_draw1 mixed [39] [] (by kernel_rfl) (fun K hK => ?_))
    | (with_reducible refine ev_nil (hK _ _ ?_); clear hK K)
    | (with_reducible refine ed_nil (hK _ _ ?_); clear hK K)
    | ((first | with_reducible refine ev_cons (fun K' hK' => ?_) | with_reducible refine ed_cons (fun K' hK' => ?_) | (with_reducible refine ev_id ?_; refine ev_guard rfl (fun K' hK' => ?_)) | (with_reducible refine ed_id ?_; refine ed_guard rfl (fun K' hK' => ?_))); simp [pairs]; repeat' (first | (with_reducible refine hK' _ _ ?_; clear hK' K') | (with_reducible refine Ret.use fixed3_ret ?_; try simp [pairs]) | (with_reducible refine Ret.use (graph_ret he) ?_; try simp [pairs]) | (with_reducible refine And.intro ?_ ?_) | (with_reducible intro hg) | (clear hK' K'; omega)))
    | (with_reducible refine w_cond (fun A B hA hB => ?_); simp [pairs]; repeat' (first | (with_reducible refine hA ?_; clear hA hB A B) | (with_reducible refine hB ?_; clear hA hB A B) | (with_reducible refine And.intro ?_ ?_) | (with_reducible intro hc)))
    | ((fail_if_success (with_reducible refine at_reg 5 ?_)); with_reducible refine awp_seq ?_))
  all_goals try (simp; done)
  rename_i hl hva hv0 r
  have hvn := hc
  have hl : es.length ≤ 100 := by omega
  have hr : H r = none := hg
  clear hg
  refine awp_loop (fun env h => ∃ (k : Nat), k ≤ es.length ∧ env 8 = I ((k : Int) - 1) ∧ env 0 = I n ∧ env 1 = pairs es ∧ env 7 = .ref r 0 ((v, v) :: revE (es.drop k)).length ((v, v) :: revE (es.drop k)).length ∧
     h = upd H r (some (.arr 2 37 (((v, v) :: revE (es.drop k)).flatMap fun e => [I e.1, I e.2]) ((v, v) :: revE (es.drop k)).length))) (fun env _ => natA1 (env 8)) ?_ ?_
  · exact ⟨es.length, by omega, by simp, by simp, by simp [pairs], by simp [revE], by simp [revE]⟩
  rintro env h ⟨k, hk, h8, h0, h1, h7, rfl⟩
  cases k with
  | zero =>
    refine awp_frz 7 h7 hr fun env' he' he2 => ?_
    rw [cut_pairs _ rfl] at he'
    rw [List.drop_zero] at he'
    have g8 : env' 8 = I ((0 : Int) - 1) := by rw [he2 _ (by decide), h8]; rfl
    have g0 : env' 0 = I n := by rw [he2 _ (by decide), h0]
    have g1 : env' 1 = pairs es := by rw [he2 _ (by decide), h1]
    have hvb := valid_back hva hl ⟨hv0, hvn⟩
    have hcb : compsL n ((v, v) :: revE es) = compsL n es := by rw [compsL, compsL, hvb, hva, comp_back]
    have hrb := rank_back hva hl ⟨hv0, hvn⟩
    have hle := compJ_le es
    have hbl : ((v, v) :: revE es).length = 2 * es.length + 1 := by simp [revE_length]
    have hbo : okLen ((v, v) :: revE es) := by rw [okLen, hbl]; omega
    have hcl := compsL_len (n := n) es
    have hlen : ((compsL n es).length : Int) = n := by
      obtain ⟨m, rfl, _⟩ := valid_nat hva
      simp [compsL, hva]
    have hok : okE n ((v, v) :: revE es) = 0 := by simp [okE, hvb]
    have hfb : decide ((if validG n ((v, v) :: revE es) then ((compJ ((v, v) :: revE es)).2 : Int) else -1) = (((v, v) :: revE es).length : Int)) = false := by
      rw [hvb, hrb, hbl]; simp; omega
    generalize (v, v) :: revE es = back at *
    repeat' (first
      | (with_reducible refine awp_skip ?_)
      | (with_reducible refine then_any ?_)
      | (with_reducible refine then_ret ?_)
      | (with_reducible refine then_exit ?_)
      | (with_reducible refine inBlock_normal ?_)
      | (with_reducible refine inBlock_ret ?_)
      | (with_reducible refine inBlock_hit ?_)
      | (with_reducible refine inBlock_miss (by decide) ?_)
      | (with_reducible refine awp_ret ?_)
      | (with_reducible refine awp_exit ?_)
      | (with_reducible refine post_ret ?_)
      | (with_reducible refine post_normal ?_)
      | (with_reducible refine awp_block ?_)
      | (with_reducible refine v_reg [] (fun K hK => ?_))
      | (with_reducible refine v_reg1 [] (fun K hK => ?_))
      | (with_reducible refine v_draw mixed [] [] (by kernel_rfl) (fun K hK => ?_))
      | (with_reducible refine v_draw1 mixed [] [] (by kernel_rfl) (fun K hK => ?_))
      | (with_reducible refine ev_nil (hK _ _ ?_); clear hK K)
      | (with_reducible refine ed_nil (hK _ _ ?_); clear hK K)
      | ((first | with_reducible refine ev_cons (fun K' hK' => ?_) | with_reducible refine ed_cons (fun K' hK' => ?_) | (with_reducible refine ev_id ?_; refine ev_guard rfl (fun K' hK' => ?_)) | (with_reducible refine ed_id ?_; refine ed_guard rfl (fun K' hK' => ?_))); simp [pairs, he', g8, g0, g1, hcb, hok, hlen, hfb, hva]; repeat' (first | (with_reducible refine hK' _ _ ?_; clear hK' K') | (with_reducible refine Ret.use (comps_ret he) ?_; try simp [pairs, he', g8, g0, g1, hcb, hok, hlen, hfb, hva]) | (with_reducible refine Ret.use (comps_ret hbo) ?_; try simp [pairs, he', g8, g0, g1, hcb, hok, hlen, hfb, hva]) | (with_reducible refine Ret.use (same_ret hcl hcl) ?_; try simp [pairs, he', g8, g0, g1, hcb, hok, hlen, hfb, hva]) | (with_reducible refine Ret.use (forestB_ret hbo) ?_; try simp [pairs, he', g8, g0, g1, hcb, hok, hlen, hfb, hva]) | (with_reducible refine Ret.use (forestB_ret he) ?_; try simp [pairs, he', g8, g0, g1, hcb, hok, hlen, hfb, hva]) | (with_reducible refine Ret.use (rank_ret he) ?_; try simp [pairs, he', g8, g0, g1, hcb, hok, hlen, hfb, hva]) | (with_reducible refine And.intro ?_ ?_) | (with_reducible intro hg) | (clear hK' K'; omega)))
      | (with_reducible refine w_cond (fun A B hA hB => ?_); simp [pairs, he', g8, g0, g1, hcb, hok, hlen, hfb, hva]; repeat' (first | (with_reducible refine hA ?_; clear hA hB A B) | (with_reducible refine hB ?_; clear hA hB A B) | (with_reducible refine And.intro ?_ ?_) | (with_reducible intro hc)))
      | (with_reducible refine awp_seq ?_))
    all_goals try simp
  | succ k =>
    have hlt : k < es.length := by omega
    have hp := pairs_get hlt
    have q1 : ∀ h, (es.flatMap fun e => [I e.1, I e.2])[k * 2]'h = I es[k].1 := fun h => (List.getElem?_eq_some_iff.1 hp.1).2
    have q2 : ∀ h, (es.flatMap fun e => [I e.1, I e.2])[k * 2 + 1]'h = I es[k].2 := fun h => (List.getElem?_eq_some_iff.1 hp.2.1).2
    have e8 : ((k + 1 : Nat) : Int) - 1 = k := by omega
    have hd : revE (es.drop k) = revE (es.drop (k + 1)) ++ [(es[k].2, es[k].1), es[k]] := by rw [List.drop_eq_getElem_cons hlt, revE]
    have hbl : ((v, v) :: revE (es.drop (k + 1))).length ≤ 300 := by simp [revE_length]; omega
    have hcl := pairs_len ((v, v) :: revE (es.drop (k + 1)))
    have hd' : (v, v) :: revE (es.drop k) = ((v, v) :: revE (es.drop (k + 1))) ++ [(es[k].2, es[k].1), es[k]] := by rw [hd]; rfl
    rw [e8] at h8
    have hmu : natA1 (env 8) = k + 1 := by rw [h8]; simp
    rw [hmu]; clear hmu
    generalize (v, v) :: revE (es.drop (k + 1)) = back at *
    repeat' (first
      | (with_reducible refine awp_skip ?_)
      | (with_reducible refine then_any ?_)
      | (with_reducible refine then_ret ?_)
      | (with_reducible refine then_exit ?_)
      | (with_reducible refine inBlock_normal ?_)
      | (with_reducible refine inBlock_ret ?_)
      | (with_reducible refine inBlock_hit ?_)
      | (with_reducible refine inBlock_miss (by decide) ?_)
      | (with_reducible refine awp_ret ?_)
      | (with_reducible refine awp_exit ?_)
      | (with_reducible refine post_ret ?_)
      | (with_reducible refine post_normal ?_)
      | (with_reducible refine awp_block ?_)
      | (with_reducible refine v_reg [] (fun K hK => ?_))
      | (with_reducible refine v_reg1 [] (fun K hK => ?_))
      | (with_reducible refine v_draw mixed [] [] (by kernel_rfl) (fun K hK => ?_))
      | (with_reducible refine v_draw1 mixed [] [] (by kernel_rfl) (fun K hK => ?_))
      | (with_reducible refine ev_nil (hK _ _ ?_); clear hK K)
      | (with_reducible refine ed_nil (hK _ _ ?_); clear hK K)
      | ((first | with_reducible refine ev_cons (fun K' hK' => ?_) | with_reducible refine ed_cons (fun K' hK' => ?_) | (with_reducible refine ev_id ?_; refine ev_guard rfl (fun K' hK' => ?_)) | (with_reducible refine ed_id ?_; refine ed_guard rfl (fun K' hK' => ?_))); simp [pairs, h8, h0, h1, h7, hlt, hp.1, hp.2.1, hp.2.2, pairs_len, hcl, sum2, q1, q2]; repeat' (first | (with_reducible refine hK' _ _ ?_; clear hK' K') | (with_reducible refine And.intro ?_ ?_) | (with_reducible intro hg) | (clear hK' K'; omega)))
      | (with_reducible refine w_cond (fun A B hA hB => ?_); simp [pairs, h8, h0, h1, h7, hlt, hp.1, hp.2.1, hp.2.2, pairs_len, hcl, sum2, q1, q2]; repeat' (first | (with_reducible refine hA ?_; clear hA hB A B) | (with_reducible refine hB ?_; clear hA hB A B) | (with_reducible refine And.intro ?_ ?_) | (with_reducible intro hc)))
      | (with_reducible refine awp_seq ?_))
    all_goals try omega
    exact ⟨⟨k, by omega, by simp, by simp [h0], by simp [h1], by rw [hd']; simp, by rw [hd']; simp⟩, by simp⟩
end Go.Am
