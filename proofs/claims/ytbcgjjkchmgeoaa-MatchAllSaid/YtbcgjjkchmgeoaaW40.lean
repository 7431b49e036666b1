/- Contracts: the document's Matches, Covers. -/
import Derived.Test.YtbcgjjkchmgeoaaW39
namespace Go.Am
open Go Go.Proofs
set_option linter.unusedVariables false
set_option linter.unusedSimpArgs false
variable {w0 : World}
attribute [local irreducible] AWP ACalls
attribute [local congr] acalls_congr

theorem isSet_one {x : Int} (h : 0 ≤ x ∧ x ≤ 1099511627776) : IsSet [x] := .one h
theorem union_one {U : List Int} {x : Int} (hU : IsSet U) (hx : 0 ≤ x ∧ x ≤ 1099511627776) (hn : x ∉ U) : IsSet (unionR U [x]) ∧ (∀ y, y ∈ unionR U [x] ↔ y ∈ U ∨ y = x) ∧ (unionR U [x]).length = U.length + 1 := by
  obtain ⟨h1, h2⟩ := unionR_spec hU (isSet_one hx)
  have h3 : ∀ y, y ∈ unionR U [x] ↔ y ∈ U ∨ y = x := fun y => by rw [h2]; simp
  refine ⟨h1, h3, Nat.le_antisymm ?_ ?_⟩
  · have := nodup_le (unionR U [x]) (x :: U) h1.nodup fun y hy => by
      rcases (h3 y).1 hy with h | h
      · simp [h]
      · simp [h]
    simpa using this
  · have := nodup_le (x :: U) (unionR U [x]) (List.nodup_cons.2 ⟨hn, hU.nodup⟩) fun y hy => by
      rw [h3]
      rcases List.mem_cons.1 hy with h | h
      · exact .inr h
      · exact .inl h
    simpa using this

set_option maxHeartbeats 4000000 in
theorem matches_ret {m : Nat} {right : Int} {adj : List (List Int)} {f : Int → Int} (ha : okLen adj) (hl : ∀ l ∈ adj, okLen l) (hG : GrM m adj) (hf : Mtc adj f) :
    Ret Try.prog w0 54 [I right, rows adj, ints (leftL adj.length f), I (cntM adj.length f)] (B true) := by
  intro H
  have hn := hG.nle
  have hm := hG.mle
  have hll := leftL_length adj.length f
  refine w_enter Try.func54 rfl Try.ntmps54 (ts := [8]) rfl (by simp) (by kernel_rfl) ?_
  repeat' (first
    | (with_reducible refine awp_skip ?_)
    | (with_reducible refine then_any ?_)
    | (with_reducible refine then_ret ?_)
    | (with_reducible refine then_exit ?_)
    | (with_reducible refine inBlock_normal ?_)
    | (with_reducible refine inBlock_ret ?_)
    | (with_reducible refine inBlock_hit ?_)
    | (with_reducible refine inBlock_miss (by decide) ?_)
    | (with_reducible refine awp_ret ?_)
    | (with_reducible refine awp_exit ?_)
    | (with_reducible refine post_ret ?_)
    | (with_reducible refine post_normal ?_)
    | (with_reducible refine awp_block ?_)
    | (with_reducible refine v_reg [] (fun K hK => ?_))
    | (with_reducible refine v_reg1 [] (fun K hK => ?_))
    | (with_reducible refine v_draw mixed [] [] (by kernel_rfl) (fun K hK => ?_))
    | (with_reducible refine v_draw1 mixed [] [] (by kernel_rfl) (fun K hK => ?_))
    | (with_reducible refine ev_nil (hK _ _ ?_); clear hK K)
    | (with_reducible refine ed_nil (hK _ _ ?_); clear hK K)
    | ((first | with_reducible refine ev_cons (fun K' hK' => ?_) | with_reducible refine ed_cons (fun K' hK' => ?_) | (with_reducible refine ev_id ?_; refine ev_guard rfl (fun K' hK' => ?_)) | (with_reducible refine ed_id ?_; refine ed_guard rfl (fun K' hK' => ?_))); simp; repeat' (first | (with_reducible refine hK' _ _ ?_; clear hK' K') | (with_reducible refine And.intro ?_ ?_) | (with_reducible intro hg) | (clear hK' K'; omega)))
    | (with_reducible refine w_cond (fun A B hA hB => ?_); simp; repeat' (first | (with_reducible refine hA ?_; clear hA hB A B) | (with_reducible refine hB ?_; clear hA hB A B) | (with_reducible refine And.intro ?_ ?_) | (with_reducible intro hc)))
    | (with_reducible refine awp_seq ?_))
  refine awp_loop (fun env h => ∃ (q : Nat) (U : List Int), q ≤ adj.length ∧ IsSet U ∧ (∀ x, x ∈ U ↔ ∃ j : Nat, j < q ∧ f j ≠ -1 ∧ f j = x) ∧ U.length = ((upto adj.length).take q).countP (fun j => decide (f j ≠ -1)) ∧ env 10 = I q ∧ env 9 = ints U ∧ env 0 = I right ∧ env 1 = rows adj ∧
      env 2 = ints (leftL adj.length f) ∧ env 3 = I (cntM adj.length f) ∧ h = H) (fun env _ => adj.length - natA (env 10)) ?_ ?_
  · exact ⟨0, [], by omega, .nil, by simp, by simp, by simp, by simp [ints], by simp, by simp, by simp, by simp, rfl⟩
  rintro env h ⟨q, U, hq, hU, hmem, hUl, h10, h9, h0, h1, h2, h3, rfl⟩
  have hnat : natA (env 10) = q := by simp [h10]
  rw [hnat]; clear hnat
  have hUle : U.length ≤ 64 := by
    rw [hUl]
    refine Nat.le_trans List.countP_le_length ?_
    rw [List.length_take]; omega
  by_cases hlt : q < adj.length
  · have hct := cntM_take (f := f) hlt
    have hlq : ∀ h, (leftL adj.length f)[q]'h = f q := fun h => leftL_get f h
    have hqL : q < (leftL adj.length f).length := by rw [hll]; exact hlt
    have hadj : ∀ h, adj[q]'h = nbM adj q := fun h => by rw [nbM_get h]
    generalize leftL adj.length f = lf at *
    by_cases hfq : f q = -1
    · rw [if_pos hfq] at hct
      repeat' (first
        | (with_reducible refine awp_skip ?_)
        | (with_reducible refine then_any ?_)
        | (with_reducible refine then_ret ?_)
        | (with_reducible refine then_exit ?_)
        | (with_reducible refine inBlock_normal ?_)
        | (with_reducible refine inBlock_ret ?_)
        | (with_reducible refine inBlock_hit ?_)
        | (with_reducible refine inBlock_miss (by decide) ?_)
        | (with_reducible refine awp_ret ?_)
        | (with_reducible refine awp_exit ?_)
        | (with_reducible refine post_ret ?_)
        | (with_reducible refine post_normal ?_)
        | (with_reducible refine awp_block ?_)
        | (with_reducible refine v_reg [] (fun K hK => ?_))
        | (with_reducible refine v_reg1 [] (fun K hK => ?_))
        | (with_reducible refine v_draw mixed [] [] (by kernel_rfl) (fun K hK => ?_))
        | (with_reducible refine v_draw1 mixed [] [] (by kernel_rfl) (fun K hK => ?_))
        | (with_reducible refine ev_nil (hK _ _ ?_); clear hK K)
        | (with_reducible refine ed_nil (hK _ _ ?_); clear hK K)
        | ((first | with_reducible refine ev_cons (fun K' hK' => ?_) | with_reducible refine ed_cons (fun K' hK' => ?_) | (with_reducible refine ev_id ?_; refine ev_guard rfl (fun K' hK' => ?_)) | (with_reducible refine ed_id ?_; refine ed_guard rfl (fun K' hK' => ?_))); simp [h10, h9, h0, h1, h2, h3, rows, ints, hlt, hll, hlq, hqL, hfq]; repeat' (first | (with_reducible refine hK' _ _ ?_; clear hK' K') | (with_reducible refine And.intro ?_ ?_) | (with_reducible intro hg) | (clear hK' K'; omega)))
        | (with_reducible refine w_cond (fun A B hA hB => ?_); simp [h10, h9, h0, h1, h2, h3, rows, ints, hlt, hll, hlq, hqL, hfq]; repeat' (first | (with_reducible refine hA ?_; clear hA hB A B) | (with_reducible refine hB ?_; clear hA hB A B) | (with_reducible refine And.intro ?_ ?_) | (with_reducible intro hc)))
        | (with_reducible refine awp_seq ?_))
      all_goals try omega
      refine ⟨⟨q + 1, U, by omega, hU, fun x => ?_, by rw [hct, hUl]; rfl, by simp, by simp [h9, ints], by simp [h0], by simp [h1, rows], by simp [h2, ints, hll], by simp [h3], rfl⟩, by simp; omega⟩
      rw [hmem]
      constructor
      · rintro ⟨j, a, b⟩; exact ⟨j, by omega, b⟩
      · rintro ⟨j, a, b⟩
        refine ⟨j, ?_, b⟩
        have : j ≠ q := fun e => by subst e; exact b.1 hfq
        omega
    · rw [if_neg hfq] at hct
      have hin := hf.nb q (by omega) (by omega) hfq
      have hr := hG.nb hin
      have hnotin : f q ∉ U := by
        rw [hmem]
        rintro ⟨j, a, b, c⟩
        have := hf.inj j q (by omega) (by omega) (by omega) (by omega) b c
        omega
      obtain ⟨u1, u2, u3⟩ := union_one hU ⟨hr.1, by omega⟩ hnotin
      have hs := hG.nb_set q
      have hnl := hG.nb_len q
      have c1 : Ret Try.prog w0 47 [ints (nbM adj q), I (f q)] (B true) := by simpa [rises_iff.2 hs, hin] using has2_ret (w0 := w0) (l := nbM adj q) (x := f q) (by omega)
      have c2 : Ret Try.prog w0 47 [ints U, I (f q)] (B false) := by simpa [hnotin] using has2_ret (w0 := w0) (l := U) (x := f q) (by omega)
      have c3 := union2_ret (w0 := w0) (a := U) (b := [f q]) (by simp only [smLen, List.length_append, List.length_cons, List.length_nil]; omega)
      simp only [ints, List.map_cons, List.map_nil, List.length_cons, List.length_nil, Nat.zero_add] at c1 c2 c3
      repeat' (first
        | (with_reducible refine awp_skip ?_)
        | (with_reducible refine then_any ?_)
        | (with_reducible refine then_ret ?_)
        | (with_reducible refine then_exit ?_)
        | (with_reducible refine inBlock_normal ?_)
        | (with_reducible refine inBlock_ret ?_)
        | (with_reducible refine inBlock_hit ?_)
        | (with_reducible refine inBlock_miss (by decide) ?_)
        | (with_reducible refine awp_ret ?_)
        | (with_reducible refine awp_exit ?_)
        | (with_reducible refine post_ret ?_)
        | (with_reducible refine post_normal ?_)
        | (with_reducible refine awp_block ?_)
        | (with_reducible refine v_reg [] (fun K hK => ?_))
        | (with_reducible refine v_reg1 [] (fun K hK => ?_))
        | (with_reducible refine v_draw mixed [] [] (by kernel_rfl) (fun K hK => ?_))
        | (with_reducible refine v_draw1 mixed [] [] (by kernel_rfl) (fun K hK => ?_))
        | (with_reducible refine ev_nil (hK _ _ ?_); clear hK K)
        | (with_reducible refine ed_nil (hK _ _ ?_); clear hK K)
        | ((first | with_reducible refine ev_cons (fun K' hK' => ?_) | with_reducible refine ed_cons (fun K' hK' => ?_) | (with_reducible refine ev_id ?_; refine ev_guard rfl (fun K' hK' => ?_)) | (with_reducible refine ed_id ?_; refine ed_guard rfl (fun K' hK' => ?_))); simp [h10, h9, h0, h1, h2, h3, rows, ints, hlt, hll, hlq, hqL, hfq, hadj]; repeat' (first | (with_reducible refine hK' _ _ ?_; clear hK' K') | (with_reducible refine Ret.use c1 ?_; try simp [h10, h9, h0, h1, h2, h3, rows, ints, hlt, hll, hlq, hqL, hfq, hadj]) | (with_reducible refine Ret.use c2 ?_; try simp [h10, h9, h0, h1, h2, h3, rows, ints, hlt, hll, hlq, hqL, hfq, hadj]) | (with_reducible refine Ret.use c3 ?_; try simp [h10, h9, h0, h1, h2, h3, rows, ints, hlt, hll, hlq, hqL, hfq, hadj]) | (with_reducible refine And.intro ?_ ?_) | (with_reducible intro hg) | (clear hK' K'; omega)))
        | (with_reducible refine w_cond (fun A B hA hB => ?_); simp [h10, h9, h0, h1, h2, h3, rows, ints, hlt, hll, hlq, hqL, hfq, hadj]; repeat' (first | (with_reducible refine hA ?_; clear hA hB A B) | (with_reducible refine hB ?_; clear hA hB A B) | (with_reducible refine And.intro ?_ ?_) | (with_reducible intro hc)))
        | (with_reducible refine awp_seq ?_))
      all_goals try omega
      refine ⟨⟨q + 1, unionR U [f q], by omega, u1, fun x => ?_, by rw [hct, u3, hUl], by simp, by simp [ints], by simp [h0], by simp [h1, rows], by simp [h2, ints, hll], by simp [h3], rfl⟩, by simp; omega⟩
      rw [u2, hmem]
      constructor
      · rintro (⟨j, a, b⟩ | rfl)
        · exact ⟨j, by omega, b⟩
        · exact ⟨q, by omega, hfq, rfl⟩
      · rintro ⟨j, a, b, c⟩
        by_cases e : j = q
        · subst e; exact .inr c.symm
        · exact .inl ⟨j, by omega, b, c⟩
  · have : q = adj.length := by omega
    subst this
    have htk : (upto adj.length).take adj.length = upto adj.length := List.take_of_length_le (by simp)
    rw [htk] at hUl
    have hUn : U.length = cntM adj.length f := hUl
    repeat' (first
      | (with_reducible refine awp_skip ?_)
      | (with_reducible refine then_any ?_)
      | (with_reducible refine then_ret ?_)
      | (with_reducible refine then_exit ?_)
      | (with_reducible refine inBlock_normal ?_)
      | (with_reducible refine inBlock_ret ?_)
      | (with_reducible refine inBlock_hit ?_)
      | (with_reducible refine inBlock_miss (by decide) ?_)
      | (with_reducible refine awp_ret ?_)
      | (with_reducible refine awp_exit ?_)
      | (with_reducible refine post_ret ?_)
      | (with_reducible refine post_normal ?_)
      | (with_reducible refine awp_block ?_)
      | (with_reducible refine v_reg [] (fun K hK => ?_))
      | (with_reducible refine v_reg1 [] (fun K hK => ?_))
      | (with_reducible refine v_draw mixed [] [] (by kernel_rfl) (fun K hK => ?_))
      | (with_reducible refine v_draw1 mixed [] [] (by kernel_rfl) (fun K hK => ?_))
      | (with_reducible refine ev_nil (hK _ _ ?_); clear hK K)
      | (with_reducible refine ed_nil (hK _ _ ?_); clear hK K)
      | ((first | with_reducible refine ev_cons (fun K' hK' => ?_) | with_reducible refine ed_cons (fun K' hK' => ?_) | (with_reducible refine ev_id ?_; refine ev_guard rfl (fun K' hK' => ?_)) | (with_reducible refine ed_id ?_; refine ed_guard rfl (fun K' hK' => ?_))); simp [h10, h9, h0, h1, h2, h3, rows, ints, hll, hUn]; repeat' (first | (with_reducible refine hK' _ _ ?_; clear hK' K') | (with_reducible refine And.intro ?_ ?_) | (with_reducible intro hg) | (clear hK' K'; omega)))
      | (with_reducible refine w_cond (fun A B hA hB => ?_); simp [h10, h9, h0, h1, h2, h3, rows, ints, hll, hUn]; repeat' (first | (with_reducible refine hA ?_; clear hA hB A B) | (with_reducible refine hB ?_; clear hA hB A B) | (with_reducible refine And.intro ?_ ?_) | (with_reducible intro hc)))
      | (with_reducible refine awp_seq ?_))
    all_goals simp [hll, hUn]
#print axioms matches_ret

theorem covers_ret {m : Nat} {adj : List (List Int)} {l r : List Int} (hG : GrM m adj) (hc : Cv m adj l r) (h1 : l.length ≤ 100) (h2 : r.length ≤ 100) : Ret Try.prog w0 55 [I m, rows adj, ints l, ints r] (B true) := by
  intro H
  have hn := hG.nle
  have hm := hG.mle
  refine w_enter Try.func55 rfl Try.ntmps55 (ts := [8]) rfl (by simp) (by kernel_rfl) ?_
  repeat' (first
    | (with_reducible refine awp_skip ?_)
    | (with_reducible refine then_any ?_)
    | (with_reducible refine then_ret ?_)
    | (with_reducible refine then_exit ?_)
    | (with_reducible refine inBlock_normal ?_)
    | (with_reducible refine inBlock_ret ?_)
    | (with_reducible refine inBlock_hit ?_)
    | (with_reducible refine inBlock_miss (by decide) ?_)
    | (with_reducible refine awp_ret ?_)
    | (with_reducible refine awp_exit ?_)
    | (with_reducible refine post_ret ?_)
    | (with_reducible refine post_normal ?_)
    | (with_reducible refine awp_block ?_)
    | (with_reducible refine v_reg [] (fun K hK => ?_))
    | (with_reducible refine v_reg1 [] (fun K hK => ?_))
    | (with_reducible refine v_draw mixed [] [] (by kernel_rfl) (fun K hK => ?_))
    | (with_reducible refine v_draw1 mixed [] [] (by kernel_rfl) (fun K hK => ?_))
    | (with_reducible refine ev_nil (hK _ _ ?_); clear hK K)
    | (with_reducible refine ed_nil (hK _ _ ?_); clear hK K)
    | ((first | with_reducible refine ev_cons (fun K' hK' => ?_) | with_reducible refine ed_cons (fun K' hK' => ?_) | (with_reducible refine ev_id ?_; refine ev_guard rfl (fun K' hK' => ?_)) | (with_reducible refine ed_id ?_; refine ed_guard rfl (fun K' hK' => ?_))); simp; repeat' (first | (with_reducible refine hK' _ _ ?_; clear hK' K') | (with_reducible refine And.intro ?_ ?_) | (with_reducible intro hg) | (clear hK' K'; omega)))
    | (with_reducible refine w_cond (fun A B hA hB => ?_); simp; repeat' (first | (with_reducible refine hA ?_; clear hA hB A B) | (with_reducible refine hB ?_; clear hA hB A B) | (with_reducible refine And.intro ?_ ?_) | (with_reducible intro hc)))
    | (with_reducible refine awp_seq ?_))
  refine awp_loop (fun env h => ∃ (q : Nat), q ≤ adj.length ∧ env 9 = I q ∧ env 0 = I m ∧ env 1 = rows adj ∧ env 2 = ints l ∧ env 3 = ints r ∧ h = H) (fun env _ => adj.length - natA (env 9)) ?_ ?_
  · exact ⟨0, by omega, by simp, by simp, by simp, by simp, by simp, rfl⟩
  rintro env h ⟨q, hq, h9, h0, h1', h2', h3', rfl⟩
  have hnat : natA (env 9) = q := by simp [h9]
  rw [hnat]; clear hnat
  by_cases hlt : q < adj.length
  · have hadj : ∀ h, adj[q]'h = nbM adj q := fun h => by rw [nbM_get h]
    have hs := hG.nb_set q
    have hnl := hG.nb_len q
    by_cases hin : (q : Int) ∈ l
    · have c1 : Ret Try.prog w0 47 [ints l, I q] (B true) := by simpa [rises_iff.2 hc.lset, hin] using has2_ret (w0 := w0) (l := l) (x := q) (by omega)
      repeat' (first
        | (with_reducible refine awp_skip ?_)
        | (with_reducible refine then_any ?_)
        | (with_reducible refine then_ret ?_)
        | (with_reducible refine then_exit ?_)
        | (with_reducible refine inBlock_normal ?_)
        | (with_reducible refine inBlock_ret ?_)
        | (with_reducible refine inBlock_hit ?_)
        | (with_reducible refine inBlock_miss (by decide) ?_)
        | (with_reducible refine awp_ret ?_)
        | (with_reducible refine awp_exit ?_)
        | (with_reducible refine post_ret ?_)
        | (with_reducible refine post_normal ?_)
        | (with_reducible refine awp_block ?_)
        | (with_reducible refine v_reg [] (fun K hK => ?_))
        | (with_reducible refine v_reg1 [] (fun K hK => ?_))
        | (with_reducible refine v_draw mixed [] [] (by kernel_rfl) (fun K hK => ?_))
        | (with_reducible refine v_draw1 mixed [] [] (by kernel_rfl) (fun K hK => ?_))
        | (with_reducible refine ev_nil (hK _ _ ?_); clear hK K)
        | (with_reducible refine ed_nil (hK _ _ ?_); clear hK K)
        | ((first | with_reducible refine ev_cons (fun K' hK' => ?_) | with_reducible refine ed_cons (fun K' hK' => ?_) | (with_reducible refine ev_id ?_; refine ev_guard rfl (fun K' hK' => ?_)) | (with_reducible refine ed_id ?_; refine ed_guard rfl (fun K' hK' => ?_))); simp [h9, h0, h1', h2', h3', rows, hlt, hadj]; repeat' (first | (with_reducible refine hK' _ _ ?_; clear hK' K') | (with_reducible refine Ret.use c1 ?_; try simp [h9, h0, h1', h2', h3', rows, hlt, hadj]) | (with_reducible refine And.intro ?_ ?_) | (with_reducible intro hg) | (clear hK' K'; omega)))
        | (with_reducible refine w_cond (fun A B hA hB => ?_); simp [h9, h0, h1', h2', h3', rows, hlt, hadj]; repeat' (first | (with_reducible refine hA ?_; clear hA hB A B) | (with_reducible refine hB ?_; clear hA hB A B) | (with_reducible refine And.intro ?_ ?_) | (with_reducible intro hc)))
        | (with_reducible refine awp_seq ?_))
      all_goals try omega
      exact ⟨⟨q + 1, by omega, by simp, by simp [h0], by simp [h1', rows], by simp [h2'], by simp [h3'], rfl⟩, by simp; omega⟩
    · have c1 : Ret Try.prog w0 47 [ints l, I q] (B false) := by simpa [hin] using has2_ret (w0 := w0) (l := l) (x := q) (by omega)
      have hall : (nbM adj q).all (fun x => decide (x ∈ r)) = true := by
        rw [List.all_eq_true]
        exact fun x hx => by simpa using hc.cover q (by omega) (by omega) hin x hx
      have c2 : Ret Try.prog w0 45 [ints (nbM adj q), ints r] (B true) := by
        have := sub2_ret (w0 := w0) (a := nbM adj q) (b := r) (by omega) (by omega)
        rw [rises_iff.2 hs, rises_iff.2 hc.rset, hall] at this
        exact this
      repeat' (first
        | (with_reducible refine awp_skip ?_)
        | (with_reducible refine then_any ?_)
        | (with_reducible refine then_ret ?_)
        | (with_reducible refine then_exit ?_)
        | (with_reducible refine inBlock_normal ?_)
        | (with_reducible refine inBlock_ret ?_)
        | (with_reducible refine inBlock_hit ?_)
        | (with_reducible refine inBlock_miss (by decide) ?_)
        | (with_reducible refine awp_ret ?_)
        | (with_reducible refine awp_exit ?_)
        | (with_reducible refine post_ret ?_)
        | (with_reducible refine post_normal ?_)
        | (with_reducible refine awp_block ?_)
        | (with_reducible refine v_reg [] (fun K hK => ?_))
        | (with_reducible refine v_reg1 [] (fun K hK => ?_))
        | (with_reducible refine v_draw mixed [] [] (by kernel_rfl) (fun K hK => ?_))
        | (with_reducible refine v_draw1 mixed [] [] (by kernel_rfl) (fun K hK => ?_))
        | (with_reducible refine ev_nil (hK _ _ ?_); clear hK K)
        | (with_reducible refine ed_nil (hK _ _ ?_); clear hK K)
        | ((first | with_reducible refine ev_cons (fun K' hK' => ?_) | with_reducible refine ed_cons (fun K' hK' => ?_) | (with_reducible refine ev_id ?_; refine ev_guard rfl (fun K' hK' => ?_)) | (with_reducible refine ed_id ?_; refine ed_guard rfl (fun K' hK' => ?_))); simp [h9, h0, h1', h2', h3', rows, hlt, hadj]; repeat' (first | (with_reducible refine hK' _ _ ?_; clear hK' K') | (with_reducible refine Ret.use c1 ?_; try simp [h9, h0, h1', h2', h3', rows, hlt, hadj]) | (with_reducible refine Ret.use c2 ?_; try simp [h9, h0, h1', h2', h3', rows, hlt, hadj]) | (with_reducible refine And.intro ?_ ?_) | (with_reducible intro hg) | (clear hK' K'; omega)))
        | (with_reducible refine w_cond (fun A B hA hB => ?_); simp [h9, h0, h1', h2', h3', rows, hlt, hadj]; repeat' (first | (with_reducible refine hA ?_; clear hA hB A B) | (with_reducible refine hB ?_; clear hA hB A B) | (with_reducible refine And.intro ?_ ?_) | (with_reducible intro hc)))
        | (with_reducible refine awp_seq ?_))
      all_goals try omega
      exact ⟨⟨q + 1, by omega, by simp, by simp [h0], by simp [h1', rows], by simp [h2'], by simp [h3'], rfl⟩, by simp; omega⟩
  · have : q = adj.length := by omega
    subst this
    have hall : ∀ n : Nat, n ≤ 64 → allL n = upto n := fun n h => by rw [allL, if_pos (by omega)]; rfl
    have c1 := all2_ret (w0 := w0) (n := adj.length)
    have c2 := all2_ret (w0 := w0) (n := m)
    rw [hall _ hn] at c1
    rw [hall _ hm] at c2
    have c3 : Ret Try.prog w0 45 [ints l, ints (upto adj.length)] (B true) := by
      have := sub2_ret (w0 := w0) (a := l) (b := upto adj.length) (by omega) (by simp; omega)
      rw [rises_iff.2 hc.lset, rises_iff.2 (isSet_upto (by omega))] at this
      have e : l.all (fun x => decide (x ∈ upto adj.length)) = true := by
        rw [List.all_eq_true]
        exact fun x hx => by simpa using mem_upto.2 ⟨(hc.lset.ok x hx).1, hc.llt x hx⟩
      rw [e] at this
      exact this
    have c4 : Ret Try.prog w0 45 [ints r, ints (upto m)] (B true) := by
      have := sub2_ret (w0 := w0) (a := r) (b := upto m) (by omega) (by simp; omega)
      rw [rises_iff.2 hc.rset, rises_iff.2 (isSet_upto (by omega))] at this
      have e : r.all (fun x => decide (x ∈ upto m)) = true := by
        rw [List.all_eq_true]
        exact fun x hx => by simpa using mem_upto.2 ⟨(hc.rset.ok x hx).1, hc.rlt x hx⟩
      rw [e] at this
      exact this
    repeat' (first
      | (with_reducible refine awp_skip ?_)
      | (with_reducible refine then_any ?_)
      | (with_reducible refine then_ret ?_)
      | (with_reducible refine then_exit ?_)
      | (with_reducible refine inBlock_normal ?_)
      | (with_reducible refine inBlock_ret ?_)
      | (with_reducible refine inBlock_hit ?_)
      | (with_reducible refine inBlock_miss (by decide) ?_)
      | (with_reducible refine awp_ret ?_)
      | (with_reducible refine awp_exit ?_)
      | (with_reducible refine post_ret ?_)
      | (with_reducible refine post_normal ?_)
      | (with_reducible refine awp_block ?_)
      | (with_reducible refine v_reg [] (fun K hK => ?_))
      | (with_reducible refine v_reg1 [] (fun K hK => ?_))
      | (with_reducible refine v_draw mixed [] [] (by kernel_rfl) (fun K hK => ?_))
      | (with_reducible refine v_draw1 mixed [] [] (by kernel_rfl) (fun K hK => ?_))
      | (with_reducible refine ev_nil (hK _ _ ?_); clear hK K)
      | (with_reducible refine ed_nil (hK _ _ ?_); clear hK K)
      | ((first | with_reducible refine ev_cons (fun K' hK' => ?_) | with_reducible refine ed_cons (fun K' hK' => ?_) | (with_reducible refine ev_id ?_; refine ev_guard rfl (fun K' hK' => ?_)) | (with_reducible refine ed_id ?_; refine ed_guard rfl (fun K' hK' => ?_))); simp [h9, h0, h1', h2', h3', rows]; repeat' (first | (with_reducible refine hK' _ _ ?_; clear hK' K') | (with_reducible refine Ret.use c1 ?_; try simp [h9, h0, h1', h2', h3', rows]) | (with_reducible refine Ret.use c2 ?_; try simp [h9, h0, h1', h2', h3', rows]) | (with_reducible refine Ret.use c3 ?_; try simp [h9, h0, h1', h2', h3', rows]) | (with_reducible refine Ret.use c4 ?_; try simp [h9, h0, h1', h2', h3', rows]) | (with_reducible refine And.intro ?_ ?_) | (with_reducible intro hg) | (clear hK' K'; omega)))
      | (with_reducible refine w_cond (fun A B hA hB => ?_); simp [h9, h0, h1', h2', h3', rows]; repeat' (first | (with_reducible refine hA ?_; clear hA hB A B) | (with_reducible refine hB ?_; clear hA hB A B) | (with_reducible refine And.intro ?_ ?_) | (with_reducible intro hc)))
      | (with_reducible refine awp_seq ?_))
    all_goals simp
#print axioms covers_ret
end Go.Am
