/- Contracts: Compact, the library's Sort on an array, the program's Sort. -/
import Derived.Test.YtbcgjjkchmgeoaaW27
import Derived.Test.YtbcgjjkchmgeoaaS1
namespace Go.Am
open Go Go.Proofs
set_option linter.unusedVariables false
set_option linter.unusedSimpArgs false
variable {w0 : World}
attribute [local irreducible] AWP ACalls
attribute [local congr] acalls_congr

theorem sortC : SortC Try.prog 88 := fun blk off cap zs w h1 h2 h3 => Any.slices_Sort_int Try.lays189 blk off cap zs w h1 h2 h3

/-- Equal neighbours are one. -/
def compactS (l : List Int) : List Int := l.foldl (fun o x => if o.getLast? = some x then o else o ++ [x]) []
theorem compactS_snoc (l : List Int) (x : Int) : compactS (l ++ [x]) = if (compactS l).getLast? = some x then compactS l else compactS l ++ [x] := by
  unfold compactS; rw [List.foldl_append]; rfl
theorem compactS_last (l : List Int) : (compactS l).getLast? = l.getLast? := by
  induction l using snoc_ind with
  | h0 => rfl
  | h1 l x ih =>
    rw [compactS_snoc]
    split
    · rename_i h; rw [h]; simp
    · simp
theorem compactS_take {l : List Int} {k : Nat} (h0 : 0 < k) (h : k < l.length) : compactS (l.take (k + 1)) = if l[k - 1] = l[k] then compactS (l.take k) else compactS (l.take k) ++ [l[k]] := by
  rw [List.take_succ_eq_append_getElem h, compactS_snoc, compactS_last]
  have : (l.take k).getLast? = some l[k - 1] := by
    rw [List.getLast?_eq_getElem?, List.length_take, List.getElem?_take, if_pos (by omega), List.getElem?_eq_getElem (by omega)]
    congr 2
    omega
  rw [this]
  simp
theorem compactS_spec {l : List Int} : l.Pairwise (· ≤ ·) → (compactS l).Pairwise (· < ·) ∧ ∀ x, x ∈ compactS l ↔ x ∈ l := by
  induction l using snoc_ind with
  | h0 => intro _; simp [compactS]
  | h1 l x ih =>
    intro hp
    rw [List.pairwise_append] at hp
    obtain ⟨h1, h2⟩ := ih hp.1
    rw [compactS_snoc]
    split
    · rename_i h
      refine ⟨h1, fun y => ?_⟩
      rw [h2, List.mem_append, List.mem_singleton]
      constructor
      · exact .inl
      · rintro (h' | rfl)
        · exact h'
        · rw [compactS_last] at h
          exact List.mem_of_getLast? h
    · rename_i h
      refine ⟨?_, fun y => by simp [h2]⟩
      rw [List.pairwise_append]
      refine ⟨h1, by simp, fun y hy z hz => ?_⟩
      simp at hz; subst hz
      have hle := hp.2.2 y ((h2 y).1 hy) z (by simp)
      refine Classical.byContradiction fun hn => h ?_
      have e : y = z := by omega
      subst e
      obtain ⟨i, hi, e⟩ := List.mem_iff_getElem.1 hy
      rw [List.getLast?_eq_getElem?, List.getElem?_eq_getElem (by omega)]
      congr 1
      by_cases e2 : i = (compactS l).length - 1
      · subst e2; exact e
      · have a := List.pairwise_iff_getElem.1 h1 i ((compactS l).length - 1) hi (by omega) (by omega)
        have b := hp.2.2 _ ((h2 _).1 (List.getElem_mem (l := compactS l) (n := (compactS l).length - 1) (by omega))) y (by simp)
        omega
theorem compactS_length (l : List Int) : (compactS l).length ≤ l.length := by
  induction l using snoc_ind with
  | h0 => simp [compactS]
  | h1 l x ih => rw [compactS_snoc]; split <;> simp <;> omega

theorem compact_use {s : List Int} {m top : Nat} {H : Heap} {r : Nat} (hl : s.length = top) (hm : m ≤ top) (hb : top ≤ 1099511627776) (hr : H r = none) {K : AV → Heap → Prop}
    (k : ∀ (c : List Int) (q : Nat), c.length = top → q ≤ top → c.take q = compactS (s.take m) → K (.ref r 0 q top) (upd H r (some (.arr 1 3 (c.map I) top)))) :
    ACalls Try.prog w0 89 [.ref r 0 m top] (upd H r (some (.arr 1 3 (s.map I) top))) K := by
  subst hl
  refine (?_ : ACalls Try.prog w0 89 [.ref r 0 m s.length] (upd H r (some (.arr 1 3 (s.map I) s.length)))
     (fun v H' => ∃ (c : List Int) (q : Nat), c.length = s.length ∧ q ≤ s.length ∧ c.take q = compactS (s.take m) ∧ v = .ref r 0 q s.length ∧ H' = upd H r (some (.arr 1 3 (c.map I) s.length)))).drop ?_
  · refine w_enter Try.func89 rfl Try.ntmps89 (ts := [2]) rfl (by simp) (by kernel_rfl) ?_
    by_cases hm2 : m < 2
    · have hm2' : (m : Int) < 2 := by omega
      repeat' (first
        | (with_reducible refine awp_skip ?_)
        | (with_reducible refine then_any ?_)
        | (with_reducible refine then_ret ?_)
        | (with_reducible refine then_exit ?_)
        | (with_reducible refine inBlock_normal ?_)
        | (with_reducible refine inBlock_ret ?_)
        | (with_reducible refine inBlock_hit ?_)
        | (with_reducible refine inBlock_miss (by decide) ?_)
        | (with_reducible refine awp_ret ?_)
        | (with_reducible refine awp_exit ?_)
        | (with_reducible refine post_ret ?_)
        | (with_reducible refine post_normal ?_)
        | (with_reducible refine awp_block ?_)
        | (with_reducible refine v_reg [] (fun K hK => ?_))
        | (with_reducible refine v_reg1 [] (fun K hK => ?_))
        | (with_reducible refine v_draw mixed [] [] (by kernel_rfl) (fun K hK => ?_))
        | (with_reducible refine v_draw1 mixed [] [] (by kernel_rfl) (fun K hK => ?_))
        | (with_reducible refine ev_nil (hK _ _ ?_); clear hK K)
        | (with_reducible refine ed_nil (hK _ _ ?_); clear hK K)
        | ((first | with_reducible refine ev_cons (fun K' hK' => ?_) | with_reducible refine ed_cons (fun K' hK' => ?_) | (with_reducible refine ev_id ?_; refine ev_guard rfl (fun K' hK' => ?_)) | (with_reducible refine ed_id ?_; refine ed_guard rfl (fun K' hK' => ?_))); simp [hm2']; repeat' (first | (with_reducible refine hK' _ _ ?_; clear hK' K') | (with_reducible refine And.intro ?_ ?_) | (with_reducible intro hg) | (clear hK' K'; omega)))
        | (with_reducible refine w_cond (fun A B hA hB => ?_); simp [hm2']; repeat' (first | (with_reducible refine hA ?_; clear hA hB A B) | (with_reducible refine hB ?_; clear hA hB A B) | (with_reducible refine And.intro ?_ ?_) | (with_reducible intro hc)))
        | (with_reducible refine awp_seq ?_))
      refine ⟨s, m, rfl, hm, ?_, by simp, rfl⟩
      cases h : s.take m with
      | nil => rfl
      | cons x t =>
        have := congrArg List.length h
        rw [List.length_take] at this
        simp only [List.length_cons] at this
        have ht : t = [] := List.length_eq_zero_iff.1 (by omega)
        subst ht; rfl
    · have hm2' : ¬ (m : Int) < 2 := by omega
      have h1s : compactS (s.take 1) = s.take 1 := by
        cases s with
        | nil => rfl
        | cons x s => rfl
      repeat' (first
        | (with_reducible refine awp_skip ?_)
        | (with_reducible refine then_any ?_)
        | (with_reducible refine then_ret ?_)
        | (with_reducible refine then_exit ?_)
        | (with_reducible refine inBlock_normal ?_)
        | (with_reducible refine inBlock_ret ?_)
        | (with_reducible refine inBlock_hit ?_)
        | (with_reducible refine inBlock_miss (by decide) ?_)
        | (with_reducible refine awp_ret ?_)
        | (with_reducible refine awp_exit ?_)
        | (with_reducible refine post_ret ?_)
        | (with_reducible refine post_normal ?_)
        | (with_reducible refine awp_block ?_)
        | (with_reducible refine v_reg [] (fun K hK => ?_))
        | (with_reducible refine v_reg1 [] (fun K hK => ?_))
        | (with_reducible refine v_draw mixed [] [] (by kernel_rfl) (fun K hK => ?_))
        | (with_reducible refine v_draw1 mixed [] [] (by kernel_rfl) (fun K hK => ?_))
        | (with_reducible refine ev_nil (hK _ _ ?_); clear hK K)
        | (with_reducible refine ed_nil (hK _ _ ?_); clear hK K)
        | ((first | with_reducible refine ev_cons (fun K' hK' => ?_) | with_reducible refine ed_cons (fun K' hK' => ?_) | (with_reducible refine ev_id ?_; refine ev_guard rfl (fun K' hK' => ?_)) | (with_reducible refine ed_id ?_; refine ed_guard rfl (fun K' hK' => ?_))); simp [hm2']; repeat' (first | (with_reducible refine hK' _ _ ?_; clear hK' K') | (with_reducible refine And.intro ?_ ?_) | (with_reducible intro hg) | (clear hK' K'; omega)))
        | (with_reducible refine w_cond (fun A B hA hB => ?_); simp [hm2']; repeat' (first | (with_reducible refine hA ?_; clear hA hB A B) | (with_reducible refine hB ?_; clear hA hB A B) | (with_reducible refine And.intro ?_ ?_) | (with_reducible intro hc)))
        | (with_reducible refine awp_seq ?_))
      refine awp_loop (fun env h => ∃ i : Nat, 1 ≤ i ∧ i ≤ m ∧ env 3 = I i ∧ env 0 = .ref r 0 m s.length ∧ compactS (s.take i) = s.take i ∧ h = upd H r (some (.arr 1 3 (s.map I) s.length))) (fun env _ => m - natA (env 3)) ?_ ?_
      · exact ⟨1, by omega, by omega, by simp, by simp, h1s, rfl⟩
      rintro env h ⟨i, hi1, hi, h3, h0, hcs, rfl⟩
      have hnat : natA (env 3) = i := by simp [h3]
      rw [hnat]; clear hnat
      by_cases hlt : i < m
      · have his : i < s.length := by omega
        have his' : i - 1 < s.length := by omega
        have e1 : ((i : Int) - 1).toNat = i - 1 := by omega
        have e2 : (0 : Int) ≤ (i : Int) - 1 := by omega
        have hst := compactS_take (by omega) his
        by_cases heq : s[i - 1] = s[i]
        · rw [if_pos heq, hcs] at hst
          have heq' : s[i] = s[i - 1] := heq.symm
          repeat' (first
            | (with_reducible refine awp_skip ?_)
            | (with_reducible refine then_any ?_)
            | (with_reducible refine then_ret ?_)
            | (with_reducible refine then_exit ?_)
            | (with_reducible refine inBlock_normal ?_)
            | (with_reducible refine inBlock_ret ?_)
            | (with_reducible refine inBlock_hit ?_)
            | (with_reducible refine inBlock_miss (by decide) ?_)
            | (with_reducible refine awp_ret ?_)
            | (with_reducible refine awp_exit ?_)
            | (with_reducible refine post_ret ?_)
            | (with_reducible refine post_normal ?_)
            | (with_reducible refine awp_block ?_)
            | (with_reducible refine v_reg [] (fun K hK => ?_))
            | (with_reducible refine v_reg1 [] (fun K hK => ?_))
            | (with_reducible refine v_draw mixed [] [] (by kernel_rfl) (fun K hK => ?_))
            | (with_reducible refine v_draw1 mixed [] [] (by kernel_rfl) (fun K hK => ?_))
            | (with_reducible refine ev_nil (hK _ _ ?_); clear hK K)
            | (with_reducible refine ed_nil (hK _ _ ?_); clear hK K)
            | ((first | with_reducible refine ev_cons (fun K' hK' => ?_) | with_reducible refine ed_cons (fun K' hK' => ?_) | (with_reducible refine ev_id ?_; refine ev_guard rfl (fun K' hK' => ?_)) | (with_reducible refine ed_id ?_; refine ed_guard rfl (fun K' hK' => ?_))); simp [h3, h0, hlt, his, his', e1, e2, heq']; repeat' (first | (with_reducible refine hK' _ _ ?_; clear hK' K') | (with_reducible refine And.intro ?_ ?_) | (with_reducible intro hg) | (clear hK' K'; omega)))
            | (with_reducible refine w_cond (fun A B hA hB => ?_); simp [h3, h0, hlt, his, his', e1, e2, heq']; repeat' (first | (with_reducible refine hA ?_; clear hA hB A B) | (with_reducible refine hB ?_; clear hA hB A B) | (with_reducible refine And.intro ?_ ?_) | (with_reducible intro hc)))
            | (with_reducible refine awp_seq ?_))
          all_goals try omega
          refine awp_loop (fun env h => ∃ (k2 q : Nat) (c : List Int), 1 ≤ k2 ∧ i + k2 ≤ m ∧ q + 1 ≤ i + k2 ∧ c.length = s.length ∧ c.take q = compactS (s.take (i + k2)) ∧ c.drop (i + k2 - 1) = s.drop (i + k2 - 1) ∧ env 5 = I k2 ∧ env 3 = I q ∧
              env 0 = .ref r 0 m s.length ∧ env 4 = .ref r i (m - i) s.length ∧ h = upd H r (some (.arr 1 3 (c.map I) s.length))) (fun env _ => m - natA (env 5)) ?_ ?_
          · exact ⟨1, i, s, by omega, by omega, by omega, rfl, hst.symm, rfl, by simp, by simp [h3], by simp [h0], by simp, rfl⟩
          clear h3 h0
          rintro env h ⟨k2, q, c, hk2, hik, hq, hcl, hct, hcd, h5, h3, h0, h4, rfl⟩
          have hnat : natA (env 5) = k2 := by simp [h5]
          rw [hnat]; clear hnat
          have hget : ∀ (p : Nat) (h1 : p < c.length) (h2 : p < s.length), i + k2 - 1 ≤ p → c[p] = s[p] := by
            intro p h1 h2 hp
            have := congrArg (·[p - (i + k2 - 1)]?) hcd
            simp only [List.getElem?_drop] at this
            rw [show i + k2 - 1 + (p - (i + k2 - 1)) = p by omega, List.getElem?_eq_getElem h1, List.getElem?_eq_getElem h2] at this
            simpa using this
          by_cases hkl : k2 < m - i
          · have a1 : i + k2 < c.length := by omega
            have a2 : i + (k2 - 1) < c.length := by omega
            have b1 : i + k2 < s.length := by omega
            have b2 : i + (k2 - 1) < s.length := by omega
            have g1 := hget _ a1 b1 (by omega)
            have g2 := hget _ a2 b2 (by omega)
            have f1 : ((k2 : Int) - 1).toNat = k2 - 1 := by omega
            have f2 : (0 : Int) ≤ (k2 : Int) - 1 := by omega
            have hstep := compactS_take (k := i + k2) (by omega) b1
            have hidx : i + k2 - 1 = i + (k2 - 1) := by omega
            simp only [hidx] at hstep
            by_cases hne : s[i + (k2 - 1)] = s[i + k2]
            · rw [if_pos hne] at hstep
              have hne' : s[i + k2] = s[i + (k2 - 1)] := hne.symm
              have g1' := g1.trans hne'
              repeat' (first
                | (with_reducible refine awp_skip ?_)
                | (with_reducible refine then_any ?_)
                | (with_reducible refine then_ret ?_)
                | (with_reducible refine then_exit ?_)
                | (with_reducible refine inBlock_normal ?_)
                | (with_reducible refine inBlock_ret ?_)
                | (with_reducible refine inBlock_hit ?_)
                | (with_reducible refine inBlock_miss (by decide) ?_)
                | (with_reducible refine awp_ret ?_)
                | (with_reducible refine awp_exit ?_)
                | (with_reducible refine post_ret ?_)
                | (with_reducible refine post_normal ?_)
                | (with_reducible refine awp_block ?_)
                | (with_reducible refine v_reg [] (fun K hK => ?_))
                | (with_reducible refine v_reg1 [] (fun K hK => ?_))
                | (with_reducible refine v_draw mixed [] [] (by kernel_rfl) (fun K hK => ?_))
                | (with_reducible refine v_draw1 mixed [] [] (by kernel_rfl) (fun K hK => ?_))
                | (with_reducible refine ev_nil (hK _ _ ?_); clear hK K)
                | (with_reducible refine ed_nil (hK _ _ ?_); clear hK K)
                | ((first | with_reducible refine ev_cons (fun K' hK' => ?_) | with_reducible refine ed_cons (fun K' hK' => ?_) | (with_reducible refine ev_id ?_; refine ev_guard rfl (fun K' hK' => ?_)) | (with_reducible refine ed_id ?_; refine ed_guard rfl (fun K' hK' => ?_))); simp [h5, h3, h0, h4, hkl, hcl, b1, b2, g1', g2, f1, f2]; repeat' (first | (with_reducible refine hK' _ _ ?_; clear hK' K') | (with_reducible refine And.intro ?_ ?_) | (with_reducible intro hg) | (clear hK' K'; omega)))
                | (with_reducible refine w_cond (fun A B hA hB => ?_); simp [h5, h3, h0, h4, hkl, hcl, b1, b2, g1', g2, f1, f2]; repeat' (first | (with_reducible refine hA ?_; clear hA hB A B) | (with_reducible refine hB ?_; clear hA hB A B) | (with_reducible refine And.intro ?_ ?_) | (with_reducible intro hc)))
                | (with_reducible refine awp_seq ?_))
              refine ⟨⟨k2 + 1, q, c, by omega, by omega, by omega, hcl, ?_, ?_, by simp, by simp [h3], by simp [h0], by simp [h4], rfl⟩, by simp; omega⟩
              · rw [← Nat.add_assoc, hstep]; exact hct
              · have := congrArg (List.drop 1) hcd
                rw [List.drop_drop, List.drop_drop] at this
                rw [show i + (k2 + 1) - 1 = i + k2 - 1 + 1 by omega]; exact this
            · rw [if_neg hne] at hstep
              have hne' : ¬ s[i + k2] = s[i + (k2 - 1)] := fun e => hne e.symm
              have hqc : q < s.length := by omega
              have hqm : q < m := by omega
              repeat' (first
                | (with_reducible refine awp_skip ?_)
                | (with_reducible refine then_any ?_)
                | (with_reducible refine then_ret ?_)
                | (with_reducible refine then_exit ?_)
                | (with_reducible refine inBlock_normal ?_)
                | (with_reducible refine inBlock_ret ?_)
                | (with_reducible refine inBlock_hit ?_)
                | (with_reducible refine inBlock_miss (by decide) ?_)
                | (with_reducible refine awp_ret ?_)
                | (with_reducible refine awp_exit ?_)
                | (with_reducible refine post_ret ?_)
                | (with_reducible refine post_normal ?_)
                | (with_reducible refine awp_block ?_)
                | (with_reducible refine v_reg [] (fun K hK => ?_))
                | (with_reducible refine v_reg1 [] (fun K hK => ?_))
                | (with_reducible refine v_draw mixed [] [] (by kernel_rfl) (fun K hK => ?_))
                | (with_reducible refine v_draw1 mixed [] [] (by kernel_rfl) (fun K hK => ?_))
                | (with_reducible refine ev_nil (hK _ _ ?_); clear hK K)
                | (with_reducible refine ed_nil (hK _ _ ?_); clear hK K)
                | ((first | with_reducible refine ev_cons (fun K' hK' => ?_) | with_reducible refine ed_cons (fun K' hK' => ?_) | (with_reducible refine ev_id ?_; refine ev_guard rfl (fun K' hK' => ?_)) | (with_reducible refine ed_id ?_; refine ed_guard rfl (fun K' hK' => ?_))); simp [h5, h3, h0, h4, hkl, hcl, b1, b2, g1, g2, f1, f2, hne', hqc, hqm]; repeat' (first | (with_reducible refine hK' _ _ ?_; clear hK' K') | (with_reducible refine And.intro ?_ ?_) | (with_reducible intro hg) | (clear hK' K'; omega)))
                | (with_reducible refine w_cond (fun A B hA hB => ?_); simp [h5, h3, h0, h4, hkl, hcl, b1, b2, g1, g2, f1, f2, hne', hqc, hqm]; repeat' (first | (with_reducible refine hA ?_; clear hA hB A B) | (with_reducible refine hB ?_; clear hA hB A B) | (with_reducible refine And.intro ?_ ?_) | (with_reducible intro hc)))
                | (with_reducible refine awp_seq ?_))
              refine ⟨⟨k2 + 1, q + 1, c.set q s[i + k2], by omega, by omega, by omega, by simpa using hcl, ?_, ?_, by simp, by simp, by simp [h0], by simp [h4], by simp [List.map_set]⟩, by simp; omega⟩
              · rw [← Nat.add_assoc, hstep, ← hct, List.take_succ_eq_append_getElem (by simpa [hcl] using hqc), List.take_set_of_le (Nat.le_refl _)]
                simp
              · rw [List.drop_set_of_lt (by omega)]
                have := congrArg (List.drop 1) hcd
                rw [List.drop_drop, List.drop_drop] at this
                rw [show i + (k2 + 1) - 1 = i + k2 - 1 + 1 by omega]; exact this
          · have hkm : i + k2 = m := by omega
            have hqm : q ≤ m := by omega
            rw [hkm] at hct
            obtain ⟨c', e1, e2, e3⟩ := setL_ints (List.replicate (m - q) 0) c q
            rw [← zrep_ints] at e1
            repeat' (first
              | (with_reducible refine awp_skip ?_)
              | (with_reducible refine then_any ?_)
              | (with_reducible refine then_ret ?_)
              | (with_reducible refine then_exit ?_)
              | (with_reducible refine inBlock_normal ?_)
              | (with_reducible refine inBlock_ret ?_)
              | (with_reducible refine inBlock_hit ?_)
              | (with_reducible refine inBlock_miss (by decide) ?_)
              | (with_reducible refine awp_ret ?_)
              | (with_reducible refine awp_exit ?_)
              | (with_reducible refine post_ret ?_)
              | (with_reducible refine post_normal ?_)
              | (with_reducible refine awp_block ?_)
              | (with_reducible refine v_reg [] (fun K hK => ?_))
              | (with_reducible refine v_reg1 [] (fun K hK => ?_))
              | (with_reducible refine v_draw mixed [] [] (by kernel_rfl) (fun K hK => ?_))
              | (with_reducible refine v_draw1 mixed [] [] (by kernel_rfl) (fun K hK => ?_))
              | (with_reducible refine ev_nil (hK _ _ ?_); clear hK K)
              | (with_reducible refine ed_nil (hK _ _ ?_); clear hK K)
              | ((first | with_reducible refine ev_cons (fun K' hK' => ?_) | with_reducible refine ed_cons (fun K' hK' => ?_) | (with_reducible refine ev_id ?_; refine ev_guard rfl (fun K' hK' => ?_)) | (with_reducible refine ed_id ?_; refine ed_guard rfl (fun K' hK' => ?_))); simp [h5, h3, h0, h4, hkl, hcl, hqm]; repeat' (first | (with_reducible refine hK' _ _ ?_; clear hK' K') | (with_reducible refine And.intro ?_ ?_) | (with_reducible intro hg) | (clear hK' K'; omega)))
              | (with_reducible refine w_cond (fun A B hA hB => ?_); simp [h5, h3, h0, h4, hkl, hcl, hqm]; repeat' (first | (with_reducible refine hA ?_; clear hA hB A B) | (with_reducible refine hB ?_; clear hA hB A B) | (with_reducible refine And.intro ?_ ?_) | (with_reducible intro hc)))
              | (with_reducible refine awp_seq ?_))
            exact ⟨c', q, by omega, by omega, by rw [e3 q (Nat.le_refl _), hct], by simp, by rw [← e1]; simp⟩
        · rw [if_neg heq, hcs] at hst
          have heq' : ¬ s[i] = s[i - 1] := fun e => heq e.symm
          repeat' (first
            | (with_reducible refine awp_skip ?_)
            | (with_reducible refine then_any ?_)
            | (with_reducible refine then_ret ?_)
            | (with_reducible refine then_exit ?_)
            | (with_reducible refine inBlock_normal ?_)
            | (with_reducible refine inBlock_ret ?_)
            | (with_reducible refine inBlock_hit ?_)
            | (with_reducible refine inBlock_miss (by decide) ?_)
            | (with_reducible refine awp_ret ?_)
            | (with_reducible refine awp_exit ?_)
            | (with_reducible refine post_ret ?_)
            | (with_reducible refine post_normal ?_)
            | (with_reducible refine awp_block ?_)
            | (with_reducible refine v_reg [] (fun K hK => ?_))
            | (with_reducible refine v_reg1 [] (fun K hK => ?_))
            | (with_reducible refine v_draw mixed [] [] (by kernel_rfl) (fun K hK => ?_))
            | (with_reducible refine v_draw1 mixed [] [] (by kernel_rfl) (fun K hK => ?_))
            | (with_reducible refine ev_nil (hK _ _ ?_); clear hK K)
            | (with_reducible refine ed_nil (hK _ _ ?_); clear hK K)
            | ((first | with_reducible refine ev_cons (fun K' hK' => ?_) | with_reducible refine ed_cons (fun K' hK' => ?_) | (with_reducible refine ev_id ?_; refine ev_guard rfl (fun K' hK' => ?_)) | (with_reducible refine ed_id ?_; refine ed_guard rfl (fun K' hK' => ?_))); simp [h3, h0, hlt, his, his', e1, e2, heq']; repeat' (first | (with_reducible refine hK' _ _ ?_; clear hK' K') | (with_reducible refine And.intro ?_ ?_) | (with_reducible intro hg) | (clear hK' K'; omega)))
            | (with_reducible refine w_cond (fun A B hA hB => ?_); simp [h3, h0, hlt, his, his', e1, e2, heq']; repeat' (first | (with_reducible refine hA ?_; clear hA hB A B) | (with_reducible refine hB ?_; clear hA hB A B) | (with_reducible refine And.intro ?_ ?_) | (with_reducible intro hc)))
            | (with_reducible refine awp_seq ?_))
          all_goals try omega
          refine ⟨⟨i + 1, by omega, by omega, by simp, by simp [h0], by rw [hst, List.take_succ_eq_append_getElem his], rfl⟩, by simp; omega⟩
      · have : i = m := by omega
        subst this
        repeat' (first
          | (with_reducible refine awp_skip ?_)
          | (with_reducible refine then_any ?_)
          | (with_reducible refine then_ret ?_)
          | (with_reducible refine then_exit ?_)
          | (with_reducible refine inBlock_normal ?_)
          | (with_reducible refine inBlock_ret ?_)
          | (with_reducible refine inBlock_hit ?_)
          | (with_reducible refine inBlock_miss (by decide) ?_)
          | (with_reducible refine awp_ret ?_)
          | (with_reducible refine awp_exit ?_)
          | (with_reducible refine post_ret ?_)
          | (with_reducible refine post_normal ?_)
          | (with_reducible refine awp_block ?_)
          | (with_reducible refine v_reg [] (fun K hK => ?_))
          | (with_reducible refine v_reg1 [] (fun K hK => ?_))
          | (with_reducible refine v_draw mixed [] [] (by kernel_rfl) (fun K hK => ?_))
          | (with_reducible refine v_draw1 mixed [] [] (by kernel_rfl) (fun K hK => ?_))
          | (with_reducible refine ev_nil (hK _ _ ?_); clear hK K)
          | (with_reducible refine ed_nil (hK _ _ ?_); clear hK K)
          | ((first | with_reducible refine ev_cons (fun K' hK' => ?_) | with_reducible refine ed_cons (fun K' hK' => ?_) | (with_reducible refine ev_id ?_; refine ev_guard rfl (fun K' hK' => ?_)) | (with_reducible refine ed_id ?_; refine ed_guard rfl (fun K' hK' => ?_))); simp [h3, h0]; repeat' (first | (with_reducible refine hK' _ _ ?_; clear hK' K') | (with_reducible refine And.intro ?_ ?_) | (with_reducible intro hg) | (clear hK' K'; omega)))
          | (with_reducible refine w_cond (fun A B hA hB => ?_); simp [h3, h0]; repeat' (first | (with_reducible refine hA ?_; clear hA hB A B) | (with_reducible refine hB ?_; clear hA hB A B) | (with_reducible refine And.intro ?_ ?_) | (with_reducible intro hc)))
          | (with_reducible refine awp_seq ?_))
        exact ⟨s, i, rfl, hm, hcs.symm, by simp, rfl⟩
  · rintro v H' ⟨c, q, h1, h2, h3, rfl, rfl⟩
    exact ⟨_, .refl _, k c q h1 h2 h3⟩
end Go.Am
