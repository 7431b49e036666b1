/- Contracts: the document's Size. -/
import Derived.Test.YtbcgjjkchmgeoaaW40
namespace Go.Am
open Go Go.Proofs
set_option linter.unusedVariables false
set_option linter.unusedSimpArgs false
variable {w0 : World}
attribute [local irreducible] AWP ACalls
attribute [local congr] acalls_congr

theorem exists_mask (p : Nat → Bool) : ∀ n : Nat, ∃ s, s < 2 ^ n ∧ ∀ j, j < n → s.testBit j = p j := by
  intro n
  induction n with
  | zero => exact ⟨0, by simp, fun j h => by omega⟩
  | succ n ih =>
    obtain ⟨s, hs, h⟩ := ih
    cases e : p n with
    | false =>
      refine ⟨s, by rw [Nat.pow_succ]; omega, fun j hj => ?_⟩
      by_cases e2 : j = n
      · subst e2; rw [e]; exact Nat.testBit_lt_two_pow hs
      · exact h j (by omega)
    | true =>
      refine ⟨2 ^ n + s, by rw [Nat.pow_succ]; omega, fun j hj => ?_⟩
      by_cases e2 : j = n
      · subst e2; rw [e, Nat.testBit_two_pow_add_eq, Nat.testBit_lt_two_pow hs]; rfl
      · rw [Nat.testBit_two_pow_add_gt (by omega)]; exact h j (by omega)

/-- Whom those of s may go with. -/
structure NearS (adj : List (List Int)) (s q : Nat) (near : List Int) : Prop where
  set : IsSet near
  mem : ∀ x, x ∈ near ↔ ∃ j : Nat, j < q ∧ s.testBit j = true ∧ x ∈ nbM adj j

theorem near_ge {m v s : Nat} {adj : List (List Int)} {near : List Int} (hG : GrM m adj) (hv : IsNu m adj v) (h : NearS adj s adj.length near) : v ≤ (upto adj.length).countP (fun j => !s.testBit j.toNat) + near.length := by
  obtain ⟨⟨f, hf, rfl⟩, _⟩ := hv
  have hn := hG.nle
  rw [List.countP_eq_length_filter]
  refine hf.le (m := m) ⟨(isSet_upto (by omega)).filter _, h.set, fun x hx => (mem_upto.1 (List.mem_filter.1 hx).1).2, fun x hx => ?_, fun i a b c y hy => ?_⟩
  · obtain ⟨j, _, _, hj⟩ := (h.mem x).1 hx
    exact (hG.nb hj).2
  · refine (h.mem y).2 ⟨i.toNat, by omega, ?_, by rw [show ((i.toNat : Nat) : Int) = i by omega]; exact hy⟩
    cases e : s.testBit i.toNat with
    | true => rfl
    | false => exact absurd (List.mem_filter.2 ⟨mem_upto.2 ⟨a, b⟩, by simp [e]⟩) c
theorem near_le {m v : Nat} {adj : List (List Int)} (hG : GrM m adj) (hv : IsNu m adj v) : ∃ s, s < 2 ^ adj.length ∧ ∀ near, NearS adj s adj.length near → (upto adj.length).countP (fun j => !s.testBit j.toNat) + near.length ≤ v := by
  obtain ⟨_, l, r, c, rfl⟩ := hv
  obtain ⟨s, hs, hb⟩ := exists_mask (fun j => !decide ((j : Int) ∈ l)) adj.length
  refine ⟨s, hs, fun near h => Nat.add_le_add ?_ ?_⟩
  · rw [List.countP_eq_length_filter]
    refine nodup_le _ _ ((nodup_upto _).filter _) fun x hx => ?_
    have h1 := mem_upto.1 (List.mem_filter.1 hx).1
    have h2 := (List.mem_filter.1 hx).2
    rw [hb _ (by omega), show ((x.toNat : Nat) : Int) = x by omega] at h2
    simpa using h2
  · refine nodup_le _ _ h.set.nodup fun x hx => ?_
    obtain ⟨j, hj, e, hx2⟩ := (h.mem x).1 hx
    rw [hb _ hj] at e
    exact c.cover j (by omega) (by omega) (by simpa using e) x hx2
theorem nu_le {m v : Nat} {adj : List (List Int)} (hv : IsNu m adj v) : v ≤ adj.length := by
  obtain ⟨⟨f, hf, rfl⟩, _⟩ := hv
  refine Nat.le_trans List.countP_le_length ?_
  simp

theorem near_step {m s q : Nat} {adj : List (List Int)} {near : List Int} (hG : GrM m adj) (h : NearS adj s q near) (hb : s.testBit q = true) : NearS adj s (q + 1) (unionR near (nbM adj q)) := by
  obtain ⟨h1, h2⟩ := unionR_spec h.set (hG.nb_set q)
  refine ⟨h1, fun x => ?_⟩
  rw [h2, h.mem]
  constructor
  · rintro (⟨j, a, b⟩ | hx)
    · exact ⟨j, by omega, b⟩
    · exact ⟨q, by omega, hb, hx⟩
  · rintro ⟨j, a, b, c⟩
    by_cases e : j = q
    · subst e; exact .inr c
    · exact .inl ⟨j, by omega, b, c⟩
theorem near_skip {s q : Nat} {adj : List (List Int)} {near : List Int} (h : NearS adj s q near) (hb : s.testBit q = false) : NearS adj s (q + 1) near := by
  refine ⟨h.set, fun x => ?_⟩
  rw [h.mem]
  constructor
  · rintro ⟨j, a, b⟩; exact ⟨j, by omega, b⟩
  · rintro ⟨j, a, b⟩
    refine ⟨j, ?_, b⟩
    have : j ≠ q := fun e => by subst e; rw [hb] at b; cases b.1
    omega
theorem near_len {m s q : Nat} {adj : List (List Int)} {near : List Int} (hG : GrM m adj) (h : NearS adj s q near) : near.length ≤ m :=
  up_length h.set.up fun x hx => by
    obtain ⟨j, _, _, hj⟩ := (h.mem x).1 hx
    exact hG.nb hj

theorem and_one (x : Nat) (hx : x < 1024) : IntKind.i64.wrap ((BitVec.ofInt 64 (x : Int) &&& 1#64).toNat : Int) = ((x % 2 : Nat) : Int) := by
  rw [BitVec.toNat_and, BitVec.toNat_ofInt]
  have h1 : ((x : Int) % ((2 ^ 64 : Nat) : Int)).toNat = x := by omega
  have h2 : (1#64).toNat = 1 := by decide
  rw [h1, h2, Nat.and_one_is_mod]
  rcases Nat.mod_two_eq_zero_or_one x with e | e <;> rw [e] <;> decide

set_option maxHeartbeats 4000000 in
theorem size_ret {m v : Nat} {adj : List (List Int)} (hG : GrM m adj) (hn : adj.length ≤ 10) (hv : IsNu m adj v) : Ret Try.prog w0 53 [I m, rows adj] (I v) := by
  intro H
  have hm := hG.mle
  have hvn := nu_le hv
  obtain ⟨s0, hs0, hle⟩ := near_le hG hv
  have hmin : min adj.length 64 = adj.length := by omega
  have hpow : (2 : Int) ^ adj.length = ((2 ^ adj.length : Nat) : Int) := by simp
  have hp10 : 2 ^ adj.length ≤ 1024 := Nat.le_trans (Nat.pow_le_pow_right (by omega) hn) (by decide)
  refine w_enter Try.func53 rfl Try.ntmps53 (ts := [4]) rfl (by simp) (by kernel_rfl) ?_
  repeat' (first
    | (with_reducible refine awp_skip ?_)
    | (with_reducible refine then_any ?_)
    | (with_reducible refine then_ret ?_)
    | (with_reducible refine then_exit ?_)
    | (with_reducible refine inBlock_normal ?_)
    | (with_reducible refine inBlock_ret ?_)
    | (with_reducible refine inBlock_hit ?_)
    | (with_reducible refine inBlock_miss (by decide) ?_)
    | (with_reducible refine awp_ret ?_)
    | (with_reducible refine awp_exit ?_)
    | (with_reducible refine post_ret ?_)
    | (with_reducible refine post_normal ?_)
    | (with_reducible refine awp_block ?_)
    | (with_reducible refine v_reg [] (fun K hK => ?_))
    | (with_reducible refine v_reg1 [] (fun K hK => ?_))
    | (with_reducible refine v_draw mixed [] [] (by kernel_rfl) (fun K hK => ?_))
    | (with_reducible refine v_draw1 mixed [] [] (by kernel_rfl) (fun K hK => ?_))
    | (with_reducible refine ev_nil (hK _ _ ?_); clear hK K)
    | (with_reducible refine ed_nil (hK _ _ ?_); clear hK K)
    | ((first | with_reducible refine ev_cons (fun K' hK' => ?_) | with_reducible refine ed_cons (fun K' hK' => ?_) | (with_reducible refine ev_id ?_; refine ev_guard rfl (fun K' hK' => ?_)) | (with_reducible refine ed_id ?_; refine ed_guard rfl (fun K' hK' => ?_))); simp [rows]; repeat' (first | (with_reducible refine hK' _ _ ?_; clear hK' K') | (with_reducible refine And.intro ?_ ?_) | (with_reducible intro hg) | (clear hK' K'; omega)))
    | (with_reducible refine w_cond (fun A B hA hB => ?_); simp [rows]; repeat' (first | (with_reducible refine hA ?_; clear hA hB A B) | (with_reducible refine hB ?_; clear hA hB A B) | (with_reducible refine And.intro ?_ ?_) | (with_reducible intro hc)))
    | (with_reducible refine awp_seq ?_))
  generalize hN : 2 ^ adj.length = N at *
  refine awp_loop (fun env h => ∃ (s best : Nat), s ≤ N ∧ v ≤ best ∧ best ≤ adj.length ∧ (s0 < s → best ≤ v) ∧ env 6 = I s ∧ env 5 = I best ∧ env 0 = I m ∧ env 1 = rows adj ∧ h = H) (fun env _ => N - natA (env 6)) ?_ ?_
  · exact ⟨0, adj.length, by omega, hvn, by omega, fun h => by omega, by simp, by simp, by simp, by simp [rows], rfl⟩
  rintro env H1 ⟨s, best, hs, hvb, hbn, hsb, h6, h5, h0, h1, rfl⟩
  have hnat : natA (env 6) = s := by simp [h6]
  rw [hnat]; clear hnat
  by_cases hlt : s < N
  · repeat' (first
      | (with_reducible refine awp_skip ?_)
      | (with_reducible refine then_any ?_)
      | (with_reducible refine then_ret ?_)
      | (with_reducible refine then_exit ?_)
      | (with_reducible refine inBlock_normal ?_)
      | (with_reducible refine inBlock_ret ?_)
      | (with_reducible refine inBlock_hit ?_)
      | (with_reducible refine inBlock_miss (by decide) ?_)
      | (with_reducible refine awp_ret ?_)
      | (with_reducible refine awp_exit ?_)
      | (with_reducible refine post_ret ?_)
      | (with_reducible refine post_normal ?_)
      | (with_reducible refine awp_block ?_)
      | (with_reducible refine v_reg [] (fun K hK => ?_))
      | (with_reducible refine v_reg1 [] (fun K hK => ?_))
      | (with_reducible refine v_draw mixed [] [] (by kernel_rfl) (fun K hK => ?_))
      | (with_reducible refine v_draw1 mixed [] [] (by kernel_rfl) (fun K hK => ?_))
      | (with_reducible refine ev_nil (hK _ _ ?_); clear hK K)
      | (with_reducible refine ed_nil (hK _ _ ?_); clear hK K)
      | ((first | with_reducible refine ev_cons (fun K' hK' => ?_) | with_reducible refine ed_cons (fun K' hK' => ?_) | (with_reducible refine ev_id ?_; refine ev_guard rfl (fun K' hK' => ?_)) | (with_reducible refine ed_id ?_; refine ed_guard rfl (fun K' hK' => ?_))); simp [h6, h5, h0, h1, rows, hlt, hmin, hpow, IntKind.bits]; repeat' (first | (with_reducible refine hK' _ _ ?_; clear hK' K') | (with_reducible refine And.intro ?_ ?_) | (with_reducible intro hg) | (clear hK' K'; omega)))
      | (with_reducible refine w_cond (fun A B hA hB => ?_); simp [h6, h5, h0, h1, rows, hlt, hmin, hpow, IntKind.bits]; repeat' (first | (with_reducible refine hA ?_; clear hA hB A B) | (with_reducible refine hB ?_; clear hA hB A B) | (with_reducible refine And.intro ?_ ?_) | (with_reducible intro hc)))
      | (with_reducible refine awp_seq ?_))
    refine awp_loop (fun env h => ∃ (q out : Nat) (near : List Int), q ≤ adj.length ∧ NearS adj s q near ∧ out = ((upto adj.length).take q).countP (fun j => !s.testBit j.toNat) ∧ env 9 = I q ∧ env 8 = ints near ∧ env 7 = I out ∧ env 6 = I s ∧ env 5 = I best ∧ env 0 = I m ∧ env 1 = rows adj ∧ h = H1) (fun env _ => adj.length - natA (env 9)) ?_ ?_
    · exact ⟨0, 0, [], by omega, ⟨.nil, by simp⟩, by simp, by simp, by simp [ints], by simp, by simp [h6], by simp [h5], by simp [h0], by simp [h1, rows], rfl⟩
    clear h6 h5 h0 h1
    rintro env h ⟨q, out, near, hq, hnear, hout, h9, h8, h7, h6, h5, h0, h1, rfl⟩
    have hnat : natA (env 9) = q := by simp [h9]
    rw [hnat]; clear hnat
    have hol : out ≤ 10 := by
      rw [hout]
      refine Nat.le_trans List.countP_le_length ?_
      rw [List.length_take]; omega
    have hnl := near_len hG hnear
    by_cases hql : q < adj.length
    · have hmq : min q 64 = q := by omega
      have hfd : (s : Int).fdiv (2 ^ q) = ((s / 2 ^ q : Nat) : Int) := by
        rw [Int.fdiv_eq_ediv_of_nonneg _ (by exact Int.pow_nonneg (by omega))]
        simp
      have hadj : ∀ h, adj[q]'h = nbM adj q := fun h => by rw [nbM_get h]
      have hlq : q < (upto adj.length).length := by simpa using hql
      have hct : ((upto adj.length).take (q + 1)).countP (fun j => !s.testBit j.toNat) = out + if s.testBit q then 0 else 1 := by
        rw [List.take_succ_eq_append_getElem hlq, List.countP_append, upto_get, hout]
        simp only [List.countP_cons, List.countP_nil, Int.toNat_natCast]
        by_cases e : s.testBit q = true
        · simp [e]
        · simp [e]
      have hbit : (s / 2 ^ q) % 2 = if s.testBit q then 1 else 0 := by
        rw [Nat.testBit_eq_decide_div_mod_eq]
        by_cases e : s / 2 ^ q % 2 = 1
        · simp [e]
        · simp [e]; omega
      have hand : IntKind.i64.wrap ((BitVec.ofInt 64 ((s : Int) / 2 ^ q) &&& 1#64).toNat : Int) = ((if s.testBit q then 1 else 0 : Nat) : Int) := by
        have e : (s : Int) / 2 ^ q = ((s / 2 ^ q : Nat) : Int) := by simp
        rw [e, and_one _ (by have := Nat.div_le_self s (2 ^ q); omega), hbit]
      have hnl2 := hG.nb_len q
      cases hb : s.testBit q with
      | true =>
        rw [hb, if_pos rfl] at hct hand
        have c1 := union2_ret (w0 := w0) (a := near) (b := nbM adj q) (by simp only [smLen, List.length_append]; omega)
        simp only [ints] at c1
        repeat' (first
          | (with_reducible refine awp_skip ?_)
          | (with_reducible refine then_any ?_)
          | (with_reducible refine then_ret ?_)
          | (with_reducible refine then_exit ?_)
          | (with_reducible refine inBlock_normal ?_)
          | (with_reducible refine inBlock_ret ?_)
          | (with_reducible refine inBlock_hit ?_)
          | (with_reducible refine inBlock_miss (by decide) ?_)
          | (with_reducible refine awp_ret ?_)
          | (with_reducible refine awp_exit ?_)
          | (with_reducible refine post_ret ?_)
          | (with_reducible refine post_normal ?_)
          | (with_reducible refine awp_block ?_)
          | (with_reducible refine v_reg [] (fun K hK => ?_))
          | (with_reducible refine v_reg1 [] (fun K hK => ?_))
          | (with_reducible refine v_draw mixed [] [] (by kernel_rfl) (fun K hK => ?_))
          | (with_reducible refine v_draw1 mixed [] [] (by kernel_rfl) (fun K hK => ?_))
          | (with_reducible refine ev_nil (hK _ _ ?_); clear hK K)
          | (with_reducible refine ed_nil (hK _ _ ?_); clear hK K)
          | ((first | with_reducible refine ev_cons (fun K' hK' => ?_) | with_reducible refine ed_cons (fun K' hK' => ?_) | (with_reducible refine ev_id ?_; refine ev_guard rfl (fun K' hK' => ?_)) | (with_reducible refine ed_id ?_; refine ed_guard rfl (fun K' hK' => ?_))); simp [h9, h8, h7, h6, h5, h0, h1, rows, ints, hql, hmq, hfd, hadj, IntKind.bits, hand]; repeat' (first | (with_reducible refine hK' _ _ ?_; clear hK' K') | (with_reducible refine Ret.use c1 ?_; try simp [h9, h8, h7, h6, h5, h0, h1, rows, ints, hql, hmq, hfd, hadj, IntKind.bits, hand]) | (with_reducible refine And.intro ?_ ?_) | (with_reducible intro hg) | (clear hK' K'; omega)))
          | (with_reducible refine w_cond (fun A B hA hB => ?_); simp [h9, h8, h7, h6, h5, h0, h1, rows, ints, hql, hmq, hfd, hadj, IntKind.bits, hand]; repeat' (first | (with_reducible refine hA ?_; clear hA hB A B) | (with_reducible refine hB ?_; clear hA hB A B) | (with_reducible refine And.intro ?_ ?_) | (with_reducible intro hc)))
          | (with_reducible refine awp_seq ?_))
        all_goals try omega
        all_goals first | exact absurd hand hc | exact ⟨⟨q + 1, out, unionR near (nbM adj q), by omega, near_step hG hnear hb, by rw [hct]; rfl, by simp, by simp [ints], by simp [h7], by simp [h6], by simp [h5], by simp [h0], by simp [h1, rows], rfl⟩, by simp; omega⟩
      | false =>
        rw [hb, if_neg Bool.false_ne_true] at hct hand
        repeat' (first
          | (with_reducible refine awp_skip ?_)
          | (with_reducible refine then_any ?_)
          | (with_reducible refine then_ret ?_)
          | (with_reducible refine then_exit ?_)
          | (with_reducible refine inBlock_normal ?_)
          | (with_reducible refine inBlock_ret ?_)
          | (with_reducible refine inBlock_hit ?_)
          | (with_reducible refine inBlock_miss (by decide) ?_)
          | (with_reducible refine awp_ret ?_)
          | (with_reducible refine awp_exit ?_)
          | (with_reducible refine post_ret ?_)
          | (with_reducible refine post_normal ?_)
          | (with_reducible refine awp_block ?_)
          | (with_reducible refine v_reg [] (fun K hK => ?_))
          | (with_reducible refine v_reg1 [] (fun K hK => ?_))
          | (with_reducible refine v_draw mixed [] [] (by kernel_rfl) (fun K hK => ?_))
          | (with_reducible refine v_draw1 mixed [] [] (by kernel_rfl) (fun K hK => ?_))
          | (with_reducible refine ev_nil (hK _ _ ?_); clear hK K)
          | (with_reducible refine ed_nil (hK _ _ ?_); clear hK K)
          | ((first | with_reducible refine ev_cons (fun K' hK' => ?_) | with_reducible refine ed_cons (fun K' hK' => ?_) | (with_reducible refine ev_id ?_; refine ev_guard rfl (fun K' hK' => ?_)) | (with_reducible refine ed_id ?_; refine ed_guard rfl (fun K' hK' => ?_))); simp [h9, h8, h7, h6, h5, h0, h1, rows, ints, hql, hmq, hfd, hadj, IntKind.bits, hand]; repeat' (first | (with_reducible refine hK' _ _ ?_; clear hK' K') | (with_reducible refine And.intro ?_ ?_) | (with_reducible intro hg) | (clear hK' K'; omega)))
          | (with_reducible refine w_cond (fun A B hA hB => ?_); simp [h9, h8, h7, h6, h5, h0, h1, rows, ints, hql, hmq, hfd, hadj, IntKind.bits, hand]; repeat' (first | (with_reducible refine hA ?_; clear hA hB A B) | (with_reducible refine hB ?_; clear hA hB A B) | (with_reducible refine And.intro ?_ ?_) | (with_reducible intro hc)))
          | (with_reducible refine awp_seq ?_))
        all_goals try omega
        all_goals first | exact absurd (hc.symm.trans hand) (by decide) | exact ⟨⟨q + 1, out + 1, near, by omega, near_skip hnear hb, by rw [hct], by simp, by simp [h8, ints], by simp, by simp [h6], by simp [h5], by simp [h0], by simp [h1, rows], rfl⟩, by simp; omega⟩
    · have : q = adj.length := by omega
      subst this
      have htk : (upto adj.length).take adj.length = upto adj.length := List.take_of_length_le (by simp)
      rw [htk] at hout
      have hge := near_ge hG hv hnear
      rw [← hout] at hge
      have hbest : min best (out + near.length) ≤ adj.length := by omega
      have hs0 : s0 = s → out + near.length ≤ v := fun e => by subst e; rw [hout]; exact hle near hnear
      repeat' (first
        | (with_reducible refine awp_skip ?_)
        | (with_reducible refine then_any ?_)
        | (with_reducible refine then_ret ?_)
        | (with_reducible refine then_exit ?_)
        | (with_reducible refine inBlock_normal ?_)
        | (with_reducible refine inBlock_ret ?_)
        | (with_reducible refine inBlock_hit ?_)
        | (with_reducible refine inBlock_miss (by decide) ?_)
        | (with_reducible refine awp_ret ?_)
        | (with_reducible refine awp_exit ?_)
        | (with_reducible refine post_ret ?_)
        | (with_reducible refine post_normal ?_)
        | (with_reducible refine awp_block ?_)
        | (with_reducible refine v_reg [] (fun K hK => ?_))
        | (with_reducible refine v_reg1 [] (fun K hK => ?_))
        | (with_reducible refine v_draw mixed [] [] (by kernel_rfl) (fun K hK => ?_))
        | (with_reducible refine v_draw1 mixed [] [] (by kernel_rfl) (fun K hK => ?_))
        | (with_reducible refine ev_nil (hK _ _ ?_); clear hK K)
        | (with_reducible refine ed_nil (hK _ _ ?_); clear hK K)
        | ((first | with_reducible refine ev_cons (fun K' hK' => ?_) | with_reducible refine ed_cons (fun K' hK' => ?_) | (with_reducible refine ev_id ?_; refine ev_guard rfl (fun K' hK' => ?_)) | (with_reducible refine ed_id ?_; refine ed_guard rfl (fun K' hK' => ?_))); simp [h9, h8, h7, h6, h5, h0, h1, rows, ints]; repeat' (first | (with_reducible refine hK' _ _ ?_; clear hK' K') | (with_reducible refine And.intro ?_ ?_) | (with_reducible intro hg) | (clear hK' K'; omega)))
        | (with_reducible refine w_cond (fun A B hA hB => ?_); simp [h9, h8, h7, h6, h5, h0, h1, rows, ints]; repeat' (first | (with_reducible refine hA ?_; clear hA hB A B) | (with_reducible refine hB ?_; clear hA hB A B) | (with_reducible refine And.intro ?_ ?_) | (with_reducible intro hc)))
        | (with_reducible refine awp_seq ?_))
      all_goals try omega
      refine ⟨⟨s + 1, min best (out + near.length), by omega, by omega, by omega, fun h => ?_, by simp, ?_, by simp [h0], by simp [h1, rows], rfl⟩, by simp; omega⟩
      · by_cases e : s0 = s
        · have := hs0 e; omega
        · have := hsb (by omega); omega
      · simp
        omega
  · repeat' (first
      | (with_reducible refine awp_skip ?_)
      | (with_reducible refine then_any ?_)
      | (with_reducible refine then_ret ?_)
      | (with_reducible refine then_exit ?_)
      | (with_reducible refine inBlock_normal ?_)
      | (with_reducible refine inBlock_ret ?_)
      | (with_reducible refine inBlock_hit ?_)
      | (with_reducible refine inBlock_miss (by decide) ?_)
      | (with_reducible refine awp_ret ?_)
      | (with_reducible refine awp_exit ?_)
      | (with_reducible refine post_ret ?_)
      | (with_reducible refine post_normal ?_)
      | (with_reducible refine awp_block ?_)
      | (with_reducible refine v_reg [] (fun K hK => ?_))
      | (with_reducible refine v_reg1 [] (fun K hK => ?_))
      | (with_reducible refine v_draw mixed [] [] (by kernel_rfl) (fun K hK => ?_))
      | (with_reducible refine v_draw1 mixed [] [] (by kernel_rfl) (fun K hK => ?_))
      | (with_reducible refine ev_nil (hK _ _ ?_); clear hK K)
      | (with_reducible refine ed_nil (hK _ _ ?_); clear hK K)
      | ((first | with_reducible refine ev_cons (fun K' hK' => ?_) | with_reducible refine ed_cons (fun K' hK' => ?_) | (with_reducible refine ev_id ?_; refine ev_guard rfl (fun K' hK' => ?_)) | (with_reducible refine ed_id ?_; refine ed_guard rfl (fun K' hK' => ?_))); simp [h6, h5, h0, h1, rows, hlt, hmin, hpow, IntKind.bits]; repeat' (first | (with_reducible refine hK' _ _ ?_; clear hK' K') | (with_reducible refine And.intro ?_ ?_) | (with_reducible intro hg) | (clear hK' K'; omega)))
      | (with_reducible refine w_cond (fun A B hA hB => ?_); simp [h6, h5, h0, h1, rows, hlt, hmin, hpow, IntKind.bits]; repeat' (first | (with_reducible refine hA ?_; clear hA hB A B) | (with_reducible refine hB ?_; clear hA hB A B) | (with_reducible refine And.intro ?_ ?_) | (with_reducible intro hc)))
      | (with_reducible refine awp_seq ?_))
    have : best = v := by omega
    simp [this]
#print axioms size_ret
end Go.Am
