/- Contracts: the reference's components, parts, rank, forest. -/
import Derived.Test.YtbcgjjkchmgeoaaM1
namespace Go.Am
open Go Go.Proofs
set_option linter.unusedVariables false
set_option linter.unusedSimpArgs false
variable {w0 : World}
attribute [local irreducible] AWP ACalls
attribute [local congr] acalls_congr

/-- Labels, as cells. -/
def labC (m : Nat) (l : Nat → Nat) : List AV := (List.range m).map fun w => I (l w : Int)
theorem labC_length (m : Nat) (l : Nat → Nat) : (labC m l).length = m := by simp [labC]
theorem labC_get {m : Nat} {l : Nat → Nat} {w : Nat} (h : w < m) : (labC m l)[w]? = some (I (l w : Int)) := by simp [labC, h]
theorem labC_at {m : Nat} {l : Nat → Nat} {w : Nat} (h : w < (labC m l).length) : (labC m l)[w] = I (l w : Int) := by simp [labC]
theorem labC_set {m : Nat} {l : Nat → Nat} {u x : Nat} : (labC m l).set u (I (x : Int)) = labC m (fun w => if w = u then x else l w) := by
  refine List.ext_getElem? fun i => ?_
  rw [List.getElem?_set]
  simp only [labC, List.length_map, List.length_range, List.getElem?_map]
  by_cases h : u = i
  · subst h
    by_cases hu : u < m
    · simp [hu]
    · simp [hu]
  · rw [if_neg h]
    by_cases hi : i < m
    · have h' : ¬ i = u := fun e => h e.symm
      simp [hi, h']
    · simp [hi]
theorem labC_rel {m : Nat} {l : Nat → Nat} {e : Int × Int} : ((labC m l).set e.1.toNat (I (min (l e.1.toNat) (l e.2.toNat) : Nat))).set e.2.toNat (I (min (l e.1.toNat) (l e.2.toNat) : Nat)) = labC m (relE l e) := by
  rw [labC_set, labC_set]
  congr 1
  funext w
  simp only [relE]
  by_cases h1 : w = e.2.toNat <;> by_cases h2 : w = e.1.toNat <;> simp [h1, h2]

theorem comps3_ret {n : Int} {es : List (Int × Int)} (he : okLen es) : Ret Try.prog w0 25 [I n, pairs es] (.tup [ints (compsL n es), I (okE n es)]) := by
  intro H
  refine w_enter Try.func25 rfl Try.ntmps25 (ts := [4, 5]) rfl (by simp) (by kernel_rfl) ?_
  cases hv : validG n es with
  | false =>
    repeat' (first
      | (with_reducible refine awp_skip ?_)
      | (with_reducible refine then_any ?_)
      | (with_reducible refine then_ret ?_)
      | (with_reducible refine then_exit ?_)
      | (with_reducible refine inBlock_normal ?_)
      | (with_reducible refine inBlock_ret ?_)
      | (with_reducible refine inBlock_hit ?_)
      | (with_reducible refine inBlock_miss (by decide) ?_)
      | (with_reducible refine awp_ret ?_)
      | (with_reducible refine awp_exit ?_)
      | (with_reducible refine post_ret ?_)
      | (with_reducible refine post_normal ?_)
      | (with_reducible refine awp_block ?_)
      | (with_reducible refine v_reg [] (fun K hK => ?_))
      | (with_reducible refine v_reg1 [] (fun K hK => ?_))
      | (with_reducible refine v_draw mixed [] [] (by kernel_rfl) (fun K hK => ?_))
      | (with_reducible refine v_draw1 mixed [] [] (by kernel_rfl) (fun K hK => ?_))
      | (with_reducible refine ev_nil (hK _ _ ?_); clear hK K)
      | (with_reducible refine ed_nil (hK _ _ ?_); clear hK K)
      | ((first | with_reducible refine ev_cons (fun K' hK' => ?_) | with_reducible refine ed_cons (fun K' hK' => ?_) | (with_reducible refine ev_id ?_; refine ev_guard rfl (fun K' hK' => ?_)) | (with_reducible refine ed_id ?_; refine ed_guard rfl (fun K' hK' => ?_))); simp [pairs, hv]; repeat' (first | (with_reducible refine hK' _ _ ?_; clear hK' K') | (with_reducible refine Ret.use (graph_ret he) ?_; try simp [pairs, hv]) | (with_reducible refine And.intro ?_ ?_) | (with_reducible intro hg) | (clear hK' K'; omega)))
      | (with_reducible refine w_cond (fun A B hA hB => ?_); simp [pairs, hv]; repeat' (first | (with_reducible refine hA ?_; clear hA hB A B) | (with_reducible refine hB ?_; clear hA hB A B) | (with_reducible refine And.intro ?_ ?_) | (with_reducible intro hc)))
      | (with_reducible refine awp_seq ?_))
    simp [compsL, okE, hv]
  | true =>
    have hb := belowE_of (n := n.toNat) (es := es)
    obtain ⟨m, rfl, hm1, hm2, hm3⟩ := valid_nat hv
    rw [Int.toNat_natCast] at hb
    have hb := hb hv
    have hpos : ∀ e ∈ es, 0 ≤ e.1 ∧ 0 ≤ e.2 := by
      simp only [validG, Bool.and_eq_true, decide_eq_true_eq, List.all_eq_true, edgeOk] at hv
      intro e he
      have := hv.2 e he
      omega
    repeat' (first
      | (with_reducible refine awp_skip ?_)
      | (with_reducible refine then_any ?_)
      | (with_reducible refine then_ret ?_)
      | (with_reducible refine then_exit ?_)
      | (with_reducible refine inBlock_normal ?_)
      | (with_reducible refine inBlock_ret ?_)
      | (with_reducible refine inBlock_hit ?_)
      | (with_reducible refine inBlock_miss (by decide) ?_)
      | (with_reducible refine awp_ret ?_)
      | (with_reducible refine awp_exit ?_)
      | (with_reducible refine post_ret ?_)
      | (with_reducible refine post_normal ?_)
      | (with_reducible refine awp_block ?_)
      | (with_reducible refine v_reg [] (fun K hK => ?_))
      | (with_reducible refine v_reg1 [] (fun K hK => ?_))
      | (with_reducible refine v_draw mixed [] [] (by kernel_rfl) (fun K hK => ?_))
      | (with_reducible refine v_draw1 mixed [] [] (by kernel_rfl) (fun K hK => ?_))
      | (with_reducible refine ev_nil (hK _ _ ?_); clear hK K)
      | (with_reducible refine ed_nil (hK _ _ ?_); clear hK K)
      | ((first | with_reducible refine ev_cons (fun K' hK' => ?_) | with_reducible refine ed_cons (fun K' hK' => ?_) | (with_reducible refine ev_id ?_; refine ev_guard rfl (fun K' hK' => ?_)) | (with_reducible refine ed_id ?_; refine ed_guard rfl (fun K' hK' => ?_))); simp [pairs, hv]; repeat' (first | (with_reducible refine hK' _ _ ?_; clear hK' K') | (with_reducible refine Ret.use (graph_ret he) ?_; try simp [pairs, hv]) | (with_reducible refine And.intro ?_ ?_) | (with_reducible intro hg) | (clear hK' K'; omega)))
      | (with_reducible refine w_cond (fun A B hA hB => ?_); simp [pairs, hv]; repeat' (first | (with_reducible refine hA ?_; clear hA hB A B) | (with_reducible refine hB ?_; clear hA hB A B) | (with_reducible refine And.intro ?_ ?_) | (with_reducible intro hc)))
      | (with_reducible refine awp_seq ?_))
    rename_i r
    have hr : H r = none := hg
    clear hg
    refine awp_loop (fun env h => ∃ (k : Nat), k ≤ m ∧ env 7 = I k ∧ env 0 = I m ∧ env 1 = pairs es ∧ env 6 = .ref r 0 m m ∧ h = upd H r (some (.arr 1 3 ((List.range k ++ List.replicate (m - k) 0).map fun x : Nat => I (x : Int)) m))) (fun env _ => m - natA (env 7)) ?_ ?_
    · exact ⟨0, by omega, by simp, by simp, by simp [pairs], by simp, by simp⟩
    rintro env h ⟨k, hk, h7, h0, h1, h6, rfl⟩
    have hnat : natA (env 7) = k := by simp [h7]
    rw [hnat]; clear hnat
    by_cases hlt : k < m
    · obtain ⟨q, hm⟩ : ∃ q, m - k = q + 1 := ⟨m - k - 1, by omega⟩
      have hm' : m - (k + 1) = q := by omega
      have hs := set_next (List.range k) q 0 k
      rw [List.length_range, ← List.range_succ] at hs
      rw [hm]
      have hlen : (List.range k ++ List.replicate (q + 1) 0).length = m := by simp; omega
      generalize List.range k ++ List.replicate (q + 1) 0 = up at *
      repeat' (first
        | (with_reducible refine awp_skip ?_)
        | (with_reducible refine then_any ?_)
        | (with_reducible refine then_ret ?_)
        | (with_reducible refine then_exit ?_)
        | (with_reducible refine inBlock_normal ?_)
        | (with_reducible refine inBlock_ret ?_)
        | (with_reducible refine inBlock_hit ?_)
        | (with_reducible refine inBlock_miss (by decide) ?_)
        | (with_reducible refine awp_ret ?_)
        | (with_reducible refine awp_exit ?_)
        | (with_reducible refine post_ret ?_)
        | (with_reducible refine post_normal ?_)
        | (with_reducible refine awp_block ?_)
        | (with_reducible refine v_reg [] (fun K hK => ?_))
        | (with_reducible refine v_reg1 [] (fun K hK => ?_))
        | (with_reducible refine v_draw mixed [] [] (by kernel_rfl) (fun K hK => ?_))
        | (with_reducible refine v_draw1 mixed [] [] (by kernel_rfl) (fun K hK => ?_))
        | (with_reducible refine ev_nil (hK _ _ ?_); clear hK K)
        | (with_reducible refine ed_nil (hK _ _ ?_); clear hK K)
        | ((first | with_reducible refine ev_cons (fun K' hK' => ?_) | with_reducible refine ed_cons (fun K' hK' => ?_) | (with_reducible refine ev_id ?_; refine ev_guard rfl (fun K' hK' => ?_)) | (with_reducible refine ed_id ?_; refine ed_guard rfl (fun K' hK' => ?_))); simp [h7, h0, h1, h6, hlt, hlen]; repeat' (first | (with_reducible refine hK' _ _ ?_; clear hK' K') | (with_reducible refine And.intro ?_ ?_) | (with_reducible intro hg) | (clear hK' K'; omega)))
        | (with_reducible refine w_cond (fun A B hA hB => ?_); simp [h7, h0, h1, h6, hlt, hlen]; repeat' (first | (with_reducible refine hA ?_; clear hA hB A B) | (with_reducible refine hB ?_; clear hA hB A B) | (with_reducible refine And.intro ?_ ?_) | (with_reducible intro hc)))
        | (with_reducible refine awp_seq ?_))
      exact ⟨⟨k + 1, by omega, by simp, by simp [h0], by simp [h1], by simp [h6], by rw [hm', ← hs]; simp [List.map_set]⟩, by simp; omega⟩
    · have : k = m := by omega
      subst this
      have hc0 : ((List.range k ++ List.replicate (k - k) 0).map fun x : Nat => I (x : Int)) = labC k id := by simp [labC]
      rw [hc0]
      repeat' (first
        | (with_reducible refine awp_skip ?_)
        | (with_reducible refine then_any ?_)
        | (with_reducible refine then_ret ?_)
        | (with_reducible refine then_exit ?_)
        | (with_reducible refine inBlock_normal ?_)
        | (with_reducible refine inBlock_ret ?_)
        | (with_reducible refine inBlock_hit ?_)
        | (with_reducible refine inBlock_miss (by decide) ?_)
        | (with_reducible refine awp_ret ?_)
        | (with_reducible refine awp_exit ?_)
        | (with_reducible refine post_ret ?_)
        | (with_reducible refine post_normal ?_)
        | (with_reducible refine awp_block ?_)
        | (with_reducible refine v_reg [] (fun K hK => ?_))
        | (with_reducible refine v_reg1 [] (fun K hK => ?_))
        | (with_reducible refine v_draw mixed [] [] (by kernel_rfl) (fun K hK => ?_))
        | (with_reducible refine v_draw1 mixed [] [] (by kernel_rfl) (fun K hK => ?_))
        | (with_reducible refine ev_nil (hK _ _ ?_); clear hK K)
        | (with_reducible refine ed_nil (hK _ _ ?_); clear hK K)
        | ((first | with_reducible refine ev_cons (fun K' hK' => ?_) | with_reducible refine ed_cons (fun K' hK' => ?_) | (with_reducible refine ev_id ?_; refine ev_guard rfl (fun K' hK' => ?_)) | (with_reducible refine ed_id ?_; refine ed_guard rfl (fun K' hK' => ?_))); simp [h7, h0, h1, h6]; repeat' (first | (with_reducible refine hK' _ _ ?_; clear hK' K') | (with_reducible refine And.intro ?_ ?_) | (with_reducible intro hg) | (clear hK' K'; omega)))
        | (with_reducible refine w_cond (fun A B hA hB => ?_); simp [h7, h0, h1, h6]; repeat' (first | (with_reducible refine hA ?_; clear hA hB A B) | (with_reducible refine hB ?_; clear hA hB A B) | (with_reducible refine And.intro ?_ ?_) | (with_reducible intro hc)))
        | (with_reducible refine awp_seq ?_))
      refine awp_loop (fun env h => ∃ (j : Nat), j ≤ k ∧ env 8 = I j ∧ env 0 = I k ∧ env 1 = pairs es ∧ env 6 = .ref r 0 k k ∧ h = upd H r (some (.arr 1 3 (labC k (rnds es j)) k))) (fun env _ => k - natA (env 8)) ?_ ?_
      · exact ⟨0, by omega, by simp, by simp [h0], by simp [h1, pairs], by simp [h6], by simp [rnds]⟩
      clear h7 h0 h1 h6
      rintro env h ⟨j, hj, h8, h0, h1, h6, rfl⟩
      have hnat : natA (env 8) = j := by simp [h8]
      rw [hnat]; clear hnat
      by_cases hlt : j < k
      · repeat' (first
          | (with_reducible refine awp_skip ?_)
          | (with_reducible refine then_any ?_)
          | (with_reducible refine then_ret ?_)
          | (with_reducible refine then_exit ?_)
          | (with_reducible refine inBlock_normal ?_)
          | (with_reducible refine inBlock_ret ?_)
          | (with_reducible refine inBlock_hit ?_)
          | (with_reducible refine inBlock_miss (by decide) ?_)
          | (with_reducible refine awp_ret ?_)
          | (with_reducible refine awp_exit ?_)
          | (with_reducible refine post_ret ?_)
          | (with_reducible refine post_normal ?_)
          | (with_reducible refine awp_block ?_)
          | (with_reducible refine v_reg [] (fun K hK => ?_))
          | (with_reducible refine v_reg1 [] (fun K hK => ?_))
          | (with_reducible refine v_draw mixed [] [] (by kernel_rfl) (fun K hK => ?_))
          | (with_reducible refine v_draw1 mixed [] [] (by kernel_rfl) (fun K hK => ?_))
          | (with_reducible refine ev_nil (hK _ _ ?_); clear hK K)
          | (with_reducible refine ed_nil (hK _ _ ?_); clear hK K)
          | ((first | with_reducible refine ev_cons (fun K' hK' => ?_) | with_reducible refine ed_cons (fun K' hK' => ?_) | (with_reducible refine ev_id ?_; refine ev_guard rfl (fun K' hK' => ?_)) | (with_reducible refine ed_id ?_; refine ed_guard rfl (fun K' hK' => ?_))); simp [h8, h0, h1, h6, hlt]; repeat' (first | (with_reducible refine hK' _ _ ?_; clear hK' K') | (with_reducible refine And.intro ?_ ?_) | (with_reducible intro hg) | (clear hK' K'; omega)))
          | (with_reducible refine w_cond (fun A B hA hB => ?_); simp [h8, h0, h1, h6, hlt]; repeat' (first | (with_reducible refine hA ?_; clear hA hB A B) | (with_reducible refine hB ?_; clear hA hB A B) | (with_reducible refine And.intro ?_ ?_) | (with_reducible intro hc)))
          | (with_reducible refine awp_seq ?_))
        refine awp_loop (fun env h => ∃ (i : Nat), i ≤ es.length ∧ env 9 = I i ∧ env 8 = I j ∧ env 0 = I k ∧ env 1 = pairs es ∧ env 6 = .ref r 0 k k ∧ h = upd H r (some (.arr 1 3 (labC k ((es.take i).foldl relE (rnds es j))) k))) (fun env _ => es.length - natA (env 9)) ?_ ?_
        · exact ⟨0, by omega, by simp, by simp [h8], by simp [h0], by simp [h1, pairs], by simp [h6], by simp⟩
        clear h8 h0 h1 h6
        rintro env h ⟨i, hi, h9, h8, h0, h1, h6, rfl⟩
        have hnat : natA (env 9) = i := by simp [h9]
        rw [hnat]; clear hnat
        by_cases hil : i < es.length
        · have hp := pairs_get hil
          obtain ⟨hu, hw⟩ := hb es[i] (by simp)
          obtain ⟨pu, pw⟩ := hpos es[i] (by simp)
          have hstep : (es.take (i + 1)).foldl relE (rnds es j) = relE ((es.take i).foldl relE (rnds es j)) es[i] := by
            rw [List.take_succ_eq_append_getElem hil, List.foldl_append]; rfl
          generalize hl : (es.take i).foldl relE (rnds es j) = l at *
          have hrel := labC_rel (m := k) (l := l) (e := es[i])
          have hll : (labC k l).length = k := labC_length k l
          have hgu := labC_at (m := k) (l := l) (w := es[i].1.toNat)
          have hgw := labC_at (m := k) (l := l) (w := es[i].2.toNat)
          have hmin : min (l es[i].1.toNat : Int) (l es[i].2.toNat : Int) = (min (l es[i].1.toNat) (l es[i].2.toNat) : Nat) := by omega
          generalize labC k l = cells at *
          repeat' (first
            | (with_reducible refine awp_skip ?_)
            | (with_reducible refine then_any ?_)
            | (with_reducible refine then_ret ?_)
            | (with_reducible refine then_exit ?_)
            | (with_reducible refine inBlock_normal ?_)
            | (with_reducible refine inBlock_ret ?_)
            | (with_reducible refine inBlock_hit ?_)
            | (with_reducible refine inBlock_miss (by decide) ?_)
            | (with_reducible refine awp_ret ?_)
            | (with_reducible refine awp_exit ?_)
            | (with_reducible refine post_ret ?_)
            | (with_reducible refine post_normal ?_)
            | (with_reducible refine awp_block ?_)
            | (with_reducible refine v_reg [] (fun K hK => ?_))
            | (with_reducible refine v_reg1 [] (fun K hK => ?_))
            | (with_reducible refine v_draw mixed [] [] (by kernel_rfl) (fun K hK => ?_))
            | (with_reducible refine v_draw1 mixed [] [] (by kernel_rfl) (fun K hK => ?_))
            | (with_reducible refine ev_nil (hK _ _ ?_); clear hK K)
            | (with_reducible refine ed_nil (hK _ _ ?_); clear hK K)
            | ((first | with_reducible refine ev_cons (fun K' hK' => ?_) | with_reducible refine ed_cons (fun K' hK' => ?_) | (with_reducible refine ev_id ?_; refine ev_guard rfl (fun K' hK' => ?_)) | (with_reducible refine ed_id ?_; refine ed_guard rfl (fun K' hK' => ?_))); simp [h9, h8, h0, h1, h6, hil, hp.1, hp.2.1, pairs_len, hgu, hgw, hll, hmin, hrel, pu, pw, hu, hw]; repeat' (first | (with_reducible refine hK' _ _ ?_; clear hK' K') | (with_reducible refine And.intro ?_ ?_) | (with_reducible intro hg) | (clear hK' K'; omega)))
            | (with_reducible refine w_cond (fun A B hA hB => ?_); simp [h9, h8, h0, h1, h6, hil, hp.1, hp.2.1, pairs_len, hgu, hgw, hll, hmin, hrel, pu, pw, hu, hw]; repeat' (first | (with_reducible refine hA ?_; clear hA hB A B) | (with_reducible refine hB ?_; clear hA hB A B) | (with_reducible refine And.intro ?_ ?_) | (with_reducible intro hc)))
            | (with_reducible refine awp_seq ?_))
          exact ⟨⟨i + 1, by omega, by simp, by simp [h8], by simp [h0], by simp [h1], by simp [h6], by rw [hstep]⟩, by simp; omega⟩
        · have : i = es.length := by omega
          subst this
          rw [List.take_length]
          repeat' (first
            | (with_reducible refine awp_skip ?_)
            | (with_reducible refine then_any ?_)
            | (with_reducible refine then_ret ?_)
            | (with_reducible refine then_exit ?_)
            | (with_reducible refine inBlock_normal ?_)
            | (with_reducible refine inBlock_ret ?_)
            | (with_reducible refine inBlock_hit ?_)
            | (with_reducible refine inBlock_miss (by decide) ?_)
            | (with_reducible refine awp_ret ?_)
            | (with_reducible refine awp_exit ?_)
            | (with_reducible refine post_ret ?_)
            | (with_reducible refine post_normal ?_)
            | (with_reducible refine awp_block ?_)
            | (with_reducible refine v_reg [] (fun K hK => ?_))
            | (with_reducible refine v_reg1 [] (fun K hK => ?_))
            | (with_reducible refine v_draw mixed [] [] (by kernel_rfl) (fun K hK => ?_))
            | (with_reducible refine v_draw1 mixed [] [] (by kernel_rfl) (fun K hK => ?_))
            | (with_reducible refine ev_nil (hK _ _ ?_); clear hK K)
            | (with_reducible refine ed_nil (hK _ _ ?_); clear hK K)
            | ((first | with_reducible refine ev_cons (fun K' hK' => ?_) | with_reducible refine ed_cons (fun K' hK' => ?_) | (with_reducible refine ev_id ?_; refine ev_guard rfl (fun K' hK' => ?_)) | (with_reducible refine ed_id ?_; refine ed_guard rfl (fun K' hK' => ?_))); simp [h9, h8, h0, h1, h6]; repeat' (first | (with_reducible refine hK' _ _ ?_; clear hK' K') | (with_reducible refine And.intro ?_ ?_) | (with_reducible intro hg) | (clear hK' K'; omega)))
            | (with_reducible refine w_cond (fun A B hA hB => ?_); simp [h9, h8, h0, h1, h6]; repeat' (first | (with_reducible refine hA ?_; clear hA hB A B) | (with_reducible refine hB ?_; clear hA hB A B) | (with_reducible refine And.intro ?_ ?_) | (with_reducible intro hc)))
            | (with_reducible refine awp_seq ?_))
          exact ⟨⟨j + 1, by omega, by simp, by simp [h0], by simp [h1], by simp [h6], by simp [rnds, rnd]⟩, by simp; omega⟩
      · have : j = k := by omega
        subst this
        refine awp_frz 6 h6 hr fun env' he' he2 => ?_
        have hc : labC j (rnds es j) = (compsL (j : Int) es).map I := by
          simp only [compsL, hv, if_true, Int.toNat_natCast, labC, List.map_map]
          apply List.map_congr_left
          intro w hw
          simp only [Function.comp]
          rw [rnds_comp es hb (by simpa using hw)]
        have hcl : (compsL (j : Int) es).length = j := by simp [compsL, hv]
        rw [hc] at he'
        have he3 : env' 6 = ints (compsL (j : Int) es) := by
          rw [he', ints]
          have := cut_map I (compsL (j : Int) es)
          rwa [hcl] at this ⊢
        have g8 : env' 8 = I (j : Int) := by rw [he2 _ (by decide), h8]
        have g0 : env' 0 = I (j : Int) := by rw [he2 _ (by decide), h0]
        repeat' (first
          | (with_reducible refine awp_skip ?_)
          | (with_reducible refine then_any ?_)
          | (with_reducible refine then_ret ?_)
          | (with_reducible refine then_exit ?_)
          | (with_reducible refine inBlock_normal ?_)
          | (with_reducible refine inBlock_ret ?_)
          | (with_reducible refine inBlock_hit ?_)
          | (with_reducible refine inBlock_miss (by decide) ?_)
          | (with_reducible refine awp_ret ?_)
          | (with_reducible refine awp_exit ?_)
          | (with_reducible refine post_ret ?_)
          | (with_reducible refine post_normal ?_)
          | (with_reducible refine awp_block ?_)
          | (with_reducible refine v_reg [] (fun K hK => ?_))
          | (with_reducible refine v_reg1 [] (fun K hK => ?_))
          | (with_reducible refine v_draw mixed [] [] (by kernel_rfl) (fun K hK => ?_))
          | (with_reducible refine v_draw1 mixed [] [] (by kernel_rfl) (fun K hK => ?_))
          | (with_reducible refine ev_nil (hK _ _ ?_); clear hK K)
          | (with_reducible refine ed_nil (hK _ _ ?_); clear hK K)
          | ((first | with_reducible refine ev_cons (fun K' hK' => ?_) | with_reducible refine ed_cons (fun K' hK' => ?_) | (with_reducible refine ev_id ?_; refine ev_guard rfl (fun K' hK' => ?_)) | (with_reducible refine ed_id ?_; refine ed_guard rfl (fun K' hK' => ?_))); simp [he3, g8, g0]; repeat' (first | (with_reducible refine hK' _ _ ?_; clear hK' K') | (with_reducible refine And.intro ?_ ?_) | (with_reducible intro hg) | (clear hK' K'; omega)))
          | (with_reducible refine w_cond (fun A B hA hB => ?_); simp [he3, g8, g0]; repeat' (first | (with_reducible refine hA ?_; clear hA hB A B) | (with_reducible refine hB ?_; clear hA hB A B) | (with_reducible refine And.intro ?_ ?_) | (with_reducible intro hc)))
          | (with_reducible refine awp_seq ?_))
        simp [okE, hv]

theorem c_lt {n : Nat} (es : List (Int × Int)) {w : Nat} (h : w < n) : (compJ es).1 w < n := Nat.lt_of_le_of_lt ((compJ_spec es) w).1 h

theorem parts3_ret {n : Int} {es : List (Int × Int)} (he : okLen es) : Ret Try.prog w0 27 [I n, pairs es] (.tup [rows (partsL n es), I (okE n es)]) := by
  intro H
  refine w_enter Try.func27 rfl Try.ntmps27 (ts := [4, 5]) rfl (by simp) (by kernel_rfl) ?_
  cases hv : validG n es with
  | false =>
    repeat' (first
      | (with_reducible refine awp_skip ?_)
      | (with_reducible refine then_any ?_)
      | (with_reducible refine then_ret ?_)
      | (with_reducible refine then_exit ?_)
      | (with_reducible refine inBlock_normal ?_)
      | (with_reducible refine inBlock_ret ?_)
      | (with_reducible refine inBlock_hit ?_)
      | (with_reducible refine inBlock_miss (by decide) ?_)
      | (with_reducible refine awp_ret ?_)
      | (with_reducible refine awp_exit ?_)
      | (with_reducible refine post_ret ?_)
      | (with_reducible refine post_normal ?_)
      | (with_reducible refine awp_block ?_)
      | (with_reducible refine v_reg [] (fun K hK => ?_))
      | (with_reducible refine v_reg1 [] (fun K hK => ?_))
      | (with_reducible refine v_draw mixed [] [] (by kernel_rfl) (fun K hK => ?_))
      | (with_reducible refine v_draw1 mixed [] [] (by kernel_rfl) (fun K hK => ?_))
      | (with_reducible refine ev_nil (hK _ _ ?_); clear hK K)
      | (with_reducible refine ed_nil (hK _ _ ?_); clear hK K)
      | ((first | with_reducible refine ev_cons (fun K' hK' => ?_) | with_reducible refine ed_cons (fun K' hK' => ?_) | (with_reducible refine ev_id ?_; refine ev_guard rfl (fun K' hK' => ?_)) | (with_reducible refine ed_id ?_; refine ed_guard rfl (fun K' hK' => ?_))); simp [pairs, compsL, okE, hv]; repeat' (first | (with_reducible refine hK' _ _ ?_; clear hK' K') | (with_reducible refine Ret.use (comps3_ret he) ?_; try simp [pairs, compsL, okE, hv]) | (with_reducible refine And.intro ?_ ?_) | (with_reducible intro hg) | (clear hK' K'; omega)))
      | (with_reducible refine w_cond (fun A B hA hB => ?_); simp [pairs, compsL, okE, hv]; repeat' (first | (with_reducible refine hA ?_; clear hA hB A B) | (with_reducible refine hB ?_; clear hA hB A B) | (with_reducible refine And.intro ?_ ?_) | (with_reducible intro hc)))
      | (with_reducible refine awp_seq ?_))
    simp [partsL, okE, hv]
  | true =>
    obtain ⟨m, rfl, hm1, hm2, hm3⟩ := valid_nat hv
    repeat' (first
      | (with_reducible refine awp_skip ?_)
      | (with_reducible refine then_any ?_)
      | (with_reducible refine then_ret ?_)
      | (with_reducible refine then_exit ?_)
      | (with_reducible refine inBlock_normal ?_)
      | (with_reducible refine inBlock_ret ?_)
      | (with_reducible refine inBlock_hit ?_)
      | (with_reducible refine inBlock_miss (by decide) ?_)
      | (with_reducible refine awp_ret ?_)
      | (with_reducible refine awp_exit ?_)
      | (with_reducible refine post_ret ?_)
      | (with_reducible refine post_normal ?_)
      | (with_reducible refine awp_block ?_)
      | (with_reducible refine v_reg [21] (fun K hK => ?_))
      | (with_reducible refine v_reg1 [21] (fun K hK => ?_))
      | (with_reducible refine v_draw mixed [21] [] (by kernel_rfl) (fun K hK => ?_))
      | (with_reducible refine v_draw1 mixed [21] [] (by kernel_rfl) (fun K hK => ?_))
      | (with_reducible refine ev_nil (hK _ _ ?_); clear hK K)
      | (with_reducible refine ed_nil (hK _ _ ?_); clear hK K)
      | ((first | with_reducible refine ev_cons (fun K' hK' => ?_) | with_reducible refine ed_cons (fun K' hK' => ?_) | (with_reducible refine ev_id ?_; refine ev_guard rfl (fun K' hK' => ?_)) | (with_reducible refine ed_id ?_; refine ed_guard rfl (fun K' hK' => ?_))); simp [pairs, compsL, okE, hv]; repeat' (first | (with_reducible refine hK' _ _ ?_; clear hK' K') | (with_reducible refine Ret.use (comps3_ret he) ?_; try simp [pairs, compsL, okE, hv]) | (with_reducible refine And.intro ?_ ?_) | (with_reducible intro hg) | (clear hK' K'; omega)))
      | (with_reducible refine w_cond (fun A B hA hB => ?_); simp [pairs, compsL, okE, hv]; repeat' (first | (with_reducible refine hA ?_; clear hA hB A B) | (with_reducible refine hB ?_; clear hA hB A B) | (with_reducible refine And.intro ?_ ?_) | (with_reducible intro hc)))
      | (with_reducible refine awp_seq ?_))
    rename_i O
    have hO : H O = none := hg
    clear hg
    refine awp_loop (fun env h => ∃ (k : Nat), k ≤ m ∧ env 9 = I k ∧ env 0 = I m ∧ env 6 = .sl ((List.range m).map fun w => I ((compJ es).1 w : Int)) m ∧
       env 8 = .ref O 0 (rootsK (compJ es).1 k).length (rootsK (compJ es).1 k).length ∧ h = upd H O (some (.arr 1 24 ((rootsK (compJ es).1 k).map fun r => ints (partK (compJ es).1 m r)) (rootsK (compJ es).1 k).length))) (fun env _ => m - natA (env 9)) ?_ ?_
    · exact ⟨0, by omega, by simp, by simp, by simp, by simp [rootsK], by simp [rootsK]⟩
    rintro env h ⟨k, hk, h9, h0, h6, h8, rfl⟩
    have hnat : natA (env 9) = k := by simp [h9]
    rw [hnat]; clear hnat
    have hrl := rootsK_le (compJ es).1 k
    have hsucc := rootsK_succ (compJ es).1 k
    by_cases hlt : k < m
    · by_cases hroot : (compJ es).1 k = k
      · rw [if_pos hroot] at hsucc
        generalize hrs : rootsK (compJ es).1 k = rs at *
        repeat' (first
          | (with_reducible refine awp_skip ?_)
          | (with_reducible refine then_any ?_)
          | (with_reducible refine then_ret ?_)
          | (with_reducible refine then_exit ?_)
          | (with_reducible refine inBlock_normal ?_)
          | (with_reducible refine inBlock_ret ?_)
          | (with_reducible refine inBlock_hit ?_)
          | (with_reducible refine inBlock_miss (by decide) ?_)
          | (with_reducible refine awp_ret ?_)
          | (with_reducible refine awp_exit ?_)
          | (with_reducible refine post_ret ?_)
          | (with_reducible refine post_normal ?_)
          | (with_reducible refine awp_block ?_)
          | (with_reducible refine v_reg [33] (fun K hK => ?_))
          | (with_reducible refine v_reg1 [33] (fun K hK => ?_))
          | (with_reducible refine v_draw mixed [33] [] (by kernel_rfl) (fun K hK => ?_))
          | (with_reducible refine v_draw1 mixed [33] [] (by kernel_rfl) (fun K hK => ?_))
          | (with_reducible refine ev_nil (hK _ _ ?_); clear hK K)
          | (with_reducible refine ed_nil (hK _ _ ?_); clear hK K)
          | ((first | with_reducible refine ev_cons (fun K' hK' => ?_) | with_reducible refine ed_cons (fun K' hK' => ?_) | (with_reducible refine ev_id ?_; refine ev_guard rfl (fun K' hK' => ?_)) | (with_reducible refine ed_id ?_; refine ed_guard rfl (fun K' hK' => ?_))); simp [h9, h0, h6, h8, hlt, hroot]; repeat' (first | (with_reducible refine hK' _ _ ?_; clear hK' K') | (with_reducible refine And.intro ?_ ?_) | (with_reducible intro hg) | (clear hK' K'; omega)))
          | (with_reducible refine w_cond (fun A B hA hB => ?_); simp [h9, h0, h6, h8, hlt, hroot]; repeat' (first | (with_reducible refine hA ?_; clear hA hB A B) | (with_reducible refine hB ?_; clear hA hB A B) | (with_reducible refine And.intro ?_ ?_) | (with_reducible intro hc)))
          | (with_reducible refine awp_seq ?_))
        rename_i q
        have hqO : q ≠ O := by rintro rfl; simp at hg
        have hq : H q = none := by rw [if_neg hqO] at hg; exact hg
        clear hg
        refine awp_loop (fun env h => ∃ (j : Nat), j ≤ m ∧ env 11 = I j ∧ env 9 = I k ∧ env 0 = I m ∧ env 6 = .sl ((List.range m).map fun w => I ((compJ es).1 w : Int)) m ∧ env 8 = .ref O 0 rs.length rs.length ∧
            env 10 = .ref q 0 (partK (compJ es).1 j k).length (partK (compJ es).1 j k).length ∧ h = upd (upd H O (some (.arr 1 24 (rs.map fun r => ints (partK (compJ es).1 m r)) rs.length))) q (some (.arr 1 3 ((partK (compJ es).1 j k).map I) (partK (compJ es).1 j k).length))) (fun env _ => m - natA (env 11)) ?_ ?_
        · exact ⟨0, by omega, by simp, by simp [h9], by simp [h0], by simp [h6], by simp [h8], by simp [partK], by simp [partK]⟩
        clear h9 h0 h6 h8
        rintro env h ⟨j, hj, h11, h9, h0, h6, h8, h10, rfl⟩
        have hnat : natA (env 11) = j := by simp [h11]
        rw [hnat]; clear hnat
        have hpl := partK_le (compJ es).1 j k
        have hps := partK_succ (compJ es).1 j k
        by_cases hjm : j < m
        · generalize hp : partK (compJ es).1 j k = p at *
          by_cases hin : (compJ es).1 j = k
          · rw [if_pos hin] at hps
            repeat' (first
              | (with_reducible refine awp_skip ?_)
              | (with_reducible refine then_any ?_)
              | (with_reducible refine then_ret ?_)
              | (with_reducible refine then_exit ?_)
              | (with_reducible refine inBlock_normal ?_)
              | (with_reducible refine inBlock_ret ?_)
              | (with_reducible refine inBlock_hit ?_)
              | (with_reducible refine inBlock_miss (by decide) ?_)
              | (with_reducible refine awp_ret ?_)
              | (with_reducible refine awp_exit ?_)
              | (with_reducible refine post_ret ?_)
              | (with_reducible refine post_normal ?_)
              | (with_reducible refine awp_block ?_)
              | (with_reducible refine v_reg [] (fun K hK => ?_))
              | (with_reducible refine v_reg1 [] (fun K hK => ?_))
              | (with_reducible refine v_draw mixed [] [] (by kernel_rfl) (fun K hK => ?_))
              | (with_reducible refine v_draw1 mixed [] [] (by kernel_rfl) (fun K hK => ?_))
              | (with_reducible refine ev_nil (hK _ _ ?_); clear hK K)
              | (with_reducible refine ed_nil (hK _ _ ?_); clear hK K)
              | ((first | with_reducible refine ev_cons (fun K' hK' => ?_) | with_reducible refine ed_cons (fun K' hK' => ?_) | (with_reducible refine ev_id ?_; refine ev_guard rfl (fun K' hK' => ?_)) | (with_reducible refine ed_id ?_; refine ed_guard rfl (fun K' hK' => ?_))); simp [h11, h9, h0, h6, h8, h10, hjm, hin]; repeat' (first | (with_reducible refine hK' _ _ ?_; clear hK' K') | (with_reducible refine And.intro ?_ ?_) | (with_reducible intro hg) | (clear hK' K'; omega)))
              | (with_reducible refine w_cond (fun A B hA hB => ?_); simp [h11, h9, h0, h6, h8, h10, hjm, hin]; repeat' (first | (with_reducible refine hA ?_; clear hA hB A B) | (with_reducible refine hB ?_; clear hA hB A B) | (with_reducible refine And.intro ?_ ?_) | (with_reducible intro hc)))
              | (with_reducible refine awp_seq ?_))
            exact ⟨⟨j + 1, by omega, by simp, by simp [h9], by simp [h0], by simp [h6], by simp [h8], by rw [hps]; simp, by rw [hps]; simp⟩, by simp; omega⟩
          · rw [if_neg hin, List.append_nil] at hps
            have hin' : ¬ (((compJ es).1 j : Int) = (k : Int)) := by omega
            repeat' (first
              | (with_reducible refine awp_skip ?_)
              | (with_reducible refine then_any ?_)
              | (with_reducible refine then_ret ?_)
              | (with_reducible refine then_exit ?_)
              | (with_reducible refine inBlock_normal ?_)
              | (with_reducible refine inBlock_ret ?_)
              | (with_reducible refine inBlock_hit ?_)
              | (with_reducible refine inBlock_miss (by decide) ?_)
              | (with_reducible refine awp_ret ?_)
              | (with_reducible refine awp_exit ?_)
              | (with_reducible refine post_ret ?_)
              | (with_reducible refine post_normal ?_)
              | (with_reducible refine awp_block ?_)
              | (with_reducible refine v_reg [] (fun K hK => ?_))
              | (with_reducible refine v_reg1 [] (fun K hK => ?_))
              | (with_reducible refine v_draw mixed [] [] (by kernel_rfl) (fun K hK => ?_))
              | (with_reducible refine v_draw1 mixed [] [] (by kernel_rfl) (fun K hK => ?_))
              | (with_reducible refine ev_nil (hK _ _ ?_); clear hK K)
              | (with_reducible refine ed_nil (hK _ _ ?_); clear hK K)
              | ((first | with_reducible refine ev_cons (fun K' hK' => ?_) | with_reducible refine ed_cons (fun K' hK' => ?_) | (with_reducible refine ev_id ?_; refine ev_guard rfl (fun K' hK' => ?_)) | (with_reducible refine ed_id ?_; refine ed_guard rfl (fun K' hK' => ?_))); simp [h11, h9, h0, h6, h8, h10, hjm, hin']; repeat' (first | (with_reducible refine hK' _ _ ?_; clear hK' K') | (with_reducible refine And.intro ?_ ?_) | (with_reducible intro hg) | (clear hK' K'; omega)))
              | (with_reducible refine w_cond (fun A B hA hB => ?_); simp [h11, h9, h0, h6, h8, h10, hjm, hin']; repeat' (first | (with_reducible refine hA ?_; clear hA hB A B) | (with_reducible refine hB ?_; clear hA hB A B) | (with_reducible refine And.intro ?_ ?_) | (with_reducible intro hc)))
              | (with_reducible refine awp_seq ?_))
            exact ⟨⟨j + 1, by omega, by simp, by simp [h9], by simp [h0], by simp [h6], by simp [h8], by rw [hps]; simp [h10], by rw [hps]⟩, by simp; omega⟩
        · have : j = m := by omega
          subst this
          refine awp_frz 10 h10 (by rw [upd_ne _ _ _ hqO]; exact hq) fun env' he' he2 => ?_
          rw [cut_map] at he'
          have g11 : env' 11 = I (j : Int) := by rw [he2 _ (by decide), h11]
          have g0 : env' 0 = I (j : Int) := by rw [he2 _ (by decide), h0]
          have g9 : env' 9 = I (k : Int) := by rw [he2 _ (by decide), h9]
          have g6 := h6
          rw [← he2 _ (by decide)] at g6
          have g8 := h8
          rw [← he2 _ (by decide)] at g8
          generalize hp : partK (compJ es).1 j k = p at *
          repeat' (first
            | (with_reducible refine awp_skip ?_)
            | (with_reducible refine then_any ?_)
            | (with_reducible refine then_ret ?_)
            | (with_reducible refine then_exit ?_)
            | (with_reducible refine inBlock_normal ?_)
            | (with_reducible refine inBlock_ret ?_)
            | (with_reducible refine inBlock_hit ?_)
            | (with_reducible refine inBlock_miss (by decide) ?_)
            | (with_reducible refine awp_ret ?_)
            | (with_reducible refine awp_exit ?_)
            | (with_reducible refine post_ret ?_)
            | (with_reducible refine post_normal ?_)
            | (with_reducible refine awp_block ?_)
            | (with_reducible refine v_reg [] (fun K hK => ?_))
            | (with_reducible refine v_reg1 [] (fun K hK => ?_))
            | (with_reducible refine v_draw mixed [] [] (by kernel_rfl) (fun K hK => ?_))
            | (with_reducible refine v_draw1 mixed [] [] (by kernel_rfl) (fun K hK => ?_))
            | (with_reducible refine ev_nil (hK _ _ ?_); clear hK K)
            | (with_reducible refine ed_nil (hK _ _ ?_); clear hK K)
            | ((first | with_reducible refine ev_cons (fun K' hK' => ?_) | with_reducible refine ed_cons (fun K' hK' => ?_) | (with_reducible refine ev_id ?_; refine ev_guard rfl (fun K' hK' => ?_)) | (with_reducible refine ed_id ?_; refine ed_guard rfl (fun K' hK' => ?_))); simp [he', g11, g0, g9, g6, g8]; repeat' (first | (with_reducible refine hK' _ _ ?_; clear hK' K') | (with_reducible refine And.intro ?_ ?_) | (with_reducible intro hg) | (clear hK' K'; omega)))
            | (with_reducible refine w_cond (fun A B hA hB => ?_); simp [he', g11, g0, g9, g6, g8]; repeat' (first | (with_reducible refine hA ?_; clear hA hB A B) | (with_reducible refine hB ?_; clear hA hB A B) | (with_reducible refine And.intro ?_ ?_) | (with_reducible intro hc)))
            | (with_reducible refine awp_seq ?_))
          exact ⟨⟨k + 1, by omega, by simp, by simp [g0], by simp [g6], by rw [hsucc]; simp, by rw [hsucc]; simp [hp]⟩, by simp; omega⟩
      · rw [if_neg hroot, List.append_nil] at hsucc
        have hroot' : ¬ (((compJ es).1 k : Int) = (k : Int)) := by omega
        repeat' (first
          | (with_reducible refine awp_skip ?_)
          | (with_reducible refine then_any ?_)
          | (with_reducible refine then_ret ?_)
          | (with_reducible refine then_exit ?_)
          | (with_reducible refine inBlock_normal ?_)
          | (with_reducible refine inBlock_ret ?_)
          | (with_reducible refine inBlock_hit ?_)
          | (with_reducible refine inBlock_miss (by decide) ?_)
          | (with_reducible refine awp_ret ?_)
          | (with_reducible refine awp_exit ?_)
          | (with_reducible refine post_ret ?_)
          | (with_reducible refine post_normal ?_)
          | (with_reducible refine awp_block ?_)
          | (with_reducible refine v_reg [33] (fun K hK => ?_))
          | (with_reducible refine v_reg1 [33] (fun K hK => ?_))
          | (with_reducible refine v_draw mixed [33] [] (by kernel_rfl) (fun K hK => ?_))
          | (with_reducible refine v_draw1 mixed [33] [] (by kernel_rfl) (fun K hK => ?_))
          | (with_reducible refine ev_nil (hK _ _ ?_); clear hK K)
          | (with_reducible refine ed_nil (hK _ _ ?_); clear hK K)
          | ((first | with_reducible refine ev_cons (fun K' hK' => ?_) | with_reducible refine ed_cons (fun K' hK' => ?_) | (with_reducible refine ev_id ?_; refine ev_guard rfl (fun K' hK' => ?_)) | (with_reducible refine ed_id ?_; refine ed_guard rfl (fun K' hK' => ?_))); simp [h9, h0, h6, h8, hlt, hroot']; repeat' (first | (with_reducible refine hK' _ _ ?_; clear hK' K') | (with_reducible refine And.intro ?_ ?_) | (with_reducible intro hg) | (clear hK' K'; omega)))
          | (with_reducible refine w_cond (fun A B hA hB => ?_); simp [h9, h0, h6, h8, hlt, hroot']; repeat' (first | (with_reducible refine hA ?_; clear hA hB A B) | (with_reducible refine hB ?_; clear hA hB A B) | (with_reducible refine And.intro ?_ ?_) | (with_reducible intro hc)))
          | (with_reducible refine awp_seq ?_))
        exact ⟨⟨k + 1, by omega, by simp, by simp [h0], by simp [h6], by rw [hsucc]; simp [h8], by rw [hsucc]⟩, by simp; omega⟩
    · have : k = m := by omega
      subst this
      refine awp_frz 8 h8 hO fun env' he' he2 => ?_
      have hparts : cut 1 ((rootsK (compJ es).1 k).map fun r => ints (partK (compJ es).1 k r)) 0 (rootsK (compJ es).1 k).length = rows (partsL k es) := by
        rw [cut_map]
        simp [rows, partsL, hv, partsK]
      rw [hparts] at he'
      have g9 : env' 9 = I (k : Int) := by rw [he2 _ (by decide), h9]
      have g0 : env' 0 = I (k : Int) := by rw [he2 _ (by decide), h0]
      repeat' (first
        | (with_reducible refine awp_skip ?_)
        | (with_reducible refine then_any ?_)
        | (with_reducible refine then_ret ?_)
        | (with_reducible refine then_exit ?_)
        | (with_reducible refine inBlock_normal ?_)
        | (with_reducible refine inBlock_ret ?_)
        | (with_reducible refine inBlock_hit ?_)
        | (with_reducible refine inBlock_miss (by decide) ?_)
        | (with_reducible refine awp_ret ?_)
        | (with_reducible refine awp_exit ?_)
        | (with_reducible refine post_ret ?_)
        | (with_reducible refine post_normal ?_)
        | (with_reducible refine awp_block ?_)
        | (with_reducible refine v_reg [] (fun K hK => ?_))
        | (with_reducible refine v_reg1 [] (fun K hK => ?_))
        | (with_reducible refine v_draw mixed [] [] (by kernel_rfl) (fun K hK => ?_))
        | (with_reducible refine v_draw1 mixed [] [] (by kernel_rfl) (fun K hK => ?_))
        | (with_reducible refine ev_nil (hK _ _ ?_); clear hK K)
        | (with_reducible refine ed_nil (hK _ _ ?_); clear hK K)
        | ((first | with_reducible refine ev_cons (fun K' hK' => ?_) | with_reducible refine ed_cons (fun K' hK' => ?_) | (with_reducible refine ev_id ?_; refine ev_guard rfl (fun K' hK' => ?_)) | (with_reducible refine ed_id ?_; refine ed_guard rfl (fun K' hK' => ?_))); simp [he', g9, g0]; repeat' (first | (with_reducible refine hK' _ _ ?_; clear hK' K') | (with_reducible refine And.intro ?_ ?_) | (with_reducible intro hg) | (clear hK' K'; omega)))
        | (with_reducible refine w_cond (fun A B hA hB => ?_); simp [he', g9, g0]; repeat' (first | (with_reducible refine hA ?_; clear hA hB A B) | (with_reducible refine hB ?_; clear hA hB A B) | (with_reducible refine And.intro ?_ ?_) | (with_reducible intro hc)))
        | (with_reducible refine awp_seq ?_))
      simp [okE, hv]

theorem partsL_len {n : Int} {es : List (Int × Int)} (hv : validG n es = true) : ((partsL n es).length : Int) + (compJ es).2 = n := by
  have hb := belowE_of (n := n.toNat) (es := es)
  obtain ⟨m, rfl, hm1, hm2, hm3⟩ := valid_nat hv
  have := compJ_roots es (hb (by simpa using hv))
  rw [partsL, if_pos hv, partsK_length]
  simp only [Int.toNat_natCast] at this ⊢
  omega

theorem rank3_ret {n : Int} {es : List (Int × Int)} (he : okLen es) : Ret Try.prog w0 31 [I n, pairs es] (I (if validG n es then ((compJ es).2 : Int) else -1)) := by
  intro H
  refine w_enter Try.func31 rfl Try.ntmps31 (ts := [4]) rfl (by simp) (by kernel_rfl) ?_
  cases hv : validG n es with
  | false =>
    repeat' (first
      | (with_reducible refine awp_skip ?_)
      | (with_reducible refine then_any ?_)
      | (with_reducible refine then_ret ?_)
      | (with_reducible refine then_exit ?_)
      | (with_reducible refine inBlock_normal ?_)
      | (with_reducible refine inBlock_ret ?_)
      | (with_reducible refine inBlock_hit ?_)
      | (with_reducible refine inBlock_miss (by decide) ?_)
      | (with_reducible refine awp_ret ?_)
      | (with_reducible refine awp_exit ?_)
      | (with_reducible refine post_ret ?_)
      | (with_reducible refine post_normal ?_)
      | (with_reducible refine awp_block ?_)
      | (with_reducible refine v_reg [] (fun K hK => ?_))
      | (with_reducible refine v_reg1 [] (fun K hK => ?_))
      | (with_reducible refine v_draw mixed [] [] (by kernel_rfl) (fun K hK => ?_))
      | (with_reducible refine v_draw1 mixed [] [] (by kernel_rfl) (fun K hK => ?_))
      | (with_reducible refine ev_nil (hK _ _ ?_); clear hK K)
      | (with_reducible refine ed_nil (hK _ _ ?_); clear hK K)
      | ((first | with_reducible refine ev_cons (fun K' hK' => ?_) | with_reducible refine ed_cons (fun K' hK' => ?_) | (with_reducible refine ev_id ?_; refine ev_guard rfl (fun K' hK' => ?_)) | (with_reducible refine ed_id ?_; refine ed_guard rfl (fun K' hK' => ?_))); simp [pairs, partsL, okE, hv]; repeat' (first | (with_reducible refine hK' _ _ ?_; clear hK' K') | (with_reducible refine Ret.use (parts3_ret he) ?_; try simp [pairs, partsL, okE, hv]) | (with_reducible refine And.intro ?_ ?_) | (with_reducible intro hg) | (clear hK' K'; omega)))
      | (with_reducible refine w_cond (fun A B hA hB => ?_); simp [pairs, partsL, okE, hv]; repeat' (first | (with_reducible refine hA ?_; clear hA hB A B) | (with_reducible refine hB ?_; clear hA hB A B) | (with_reducible refine And.intro ?_ ?_) | (with_reducible intro hc)))
      | (with_reducible refine awp_seq ?_))
    simp
  | true =>
    have := partsL_len hv
    have hn : 1 ≤ n ∧ n ≤ 64 := by obtain ⟨m, rfl, hm1, hm2, hm3⟩ := valid_nat hv; omega
    have hw : n - ((partsL n es).length : Int) = ((compJ es).2 : Int) := by omega
    repeat' (first
      | (with_reducible refine awp_skip ?_)
      | (with_reducible refine then_any ?_)
      | (with_reducible refine then_ret ?_)
      | (with_reducible refine then_exit ?_)
      | (with_reducible refine inBlock_normal ?_)
      | (with_reducible refine inBlock_ret ?_)
      | (with_reducible refine inBlock_hit ?_)
      | (with_reducible refine inBlock_miss (by decide) ?_)
      | (with_reducible refine awp_ret ?_)
      | (with_reducible refine awp_exit ?_)
      | (with_reducible refine post_ret ?_)
      | (with_reducible refine post_normal ?_)
      | (with_reducible refine awp_block ?_)
      | (with_reducible refine v_reg [] (fun K hK => ?_))
      | (with_reducible refine v_reg1 [] (fun K hK => ?_))
      | (with_reducible refine v_draw mixed [] [] (by kernel_rfl) (fun K hK => ?_))
      | (with_reducible refine v_draw1 mixed [] [] (by kernel_rfl) (fun K hK => ?_))
      | (with_reducible refine ev_nil (hK _ _ ?_); clear hK K)
      | (with_reducible refine ed_nil (hK _ _ ?_); clear hK K)
      | ((first | with_reducible refine ev_cons (fun K' hK' => ?_) | with_reducible refine ed_cons (fun K' hK' => ?_) | (with_reducible refine ev_id ?_; refine ev_guard rfl (fun K' hK' => ?_)) | (with_reducible refine ed_id ?_; refine ed_guard rfl (fun K' hK' => ?_))); simp [pairs, rows, okE, hv, hw]; repeat' (first | (with_reducible refine hK' _ _ ?_; clear hK' K') | (with_reducible refine Ret.use (parts3_ret he) ?_; try simp [pairs, rows, okE, hv, hw]) | (with_reducible refine And.intro ?_ ?_) | (with_reducible intro hg) | (clear hK' K'; omega)))
      | (with_reducible refine w_cond (fun A B hA hB => ?_); simp [pairs, rows, okE, hv, hw]; repeat' (first | (with_reducible refine hA ?_; clear hA hB A B) | (with_reducible refine hB ?_; clear hA hB A B) | (with_reducible refine And.intro ?_ ?_) | (with_reducible intro hc)))
      | (with_reducible refine awp_seq ?_))
    all_goals first | omega | simp

theorem forest3_ret {n : Int} {es : List (Int × Int)} (he : okLen es) : Ret Try.prog w0 33 [I n, pairs es] (B (decide ((if validG n es then ((compJ es).2 : Int) else -1) = es.length))) := by
  intro H
  refine w_enter Try.func33 rfl Try.ntmps33 (ts := [4]) rfl (by simp) (by kernel_rfl) ?_
  repeat' (first
    | (with_reducible refine awp_skip ?_)
    | (with_reducible refine then_any ?_)
    | (with_reducible refine then_ret ?_)
    | (with_reducible refine then_exit ?_)
    | (with_reducible refine inBlock_normal ?_)
    | (with_reducible refine inBlock_ret ?_)
    | (with_reducible refine inBlock_hit ?_)
    | (with_reducible refine inBlock_miss (by decide) ?_)
    | (with_reducible refine awp_ret ?_)
    | (with_reducible refine awp_exit ?_)
    | (with_reducible refine post_ret ?_)
    | (with_reducible refine post_normal ?_)
    | (with_reducible refine awp_block ?_)
    | (with_reducible refine v_reg [] (fun K hK => ?_))
    | (with_reducible refine v_reg1 [] (fun K hK => ?_))
    | (with_reducible refine v_draw mixed [] [] (by kernel_rfl) (fun K hK => ?_))
    | (with_reducible refine v_draw1 mixed [] [] (by kernel_rfl) (fun K hK => ?_))
    | (with_reducible refine ev_nil (hK _ _ ?_); clear hK K)
    | (with_reducible refine ed_nil (hK _ _ ?_); clear hK K)
    | ((first | with_reducible refine ev_cons (fun K' hK' => ?_) | with_reducible refine ed_cons (fun K' hK' => ?_) | (with_reducible refine ev_id ?_; refine ev_guard rfl (fun K' hK' => ?_)) | (with_reducible refine ed_id ?_; refine ed_guard rfl (fun K' hK' => ?_))); simp [pairs]; repeat' (first | (with_reducible refine hK' _ _ ?_; clear hK' K') | (with_reducible refine Ret.use (rank3_ret he) ?_; try simp [pairs]) | (with_reducible refine And.intro ?_ ?_) | (with_reducible intro hg) | (clear hK' K'; omega)))
    | (with_reducible refine w_cond (fun A B hA hB => ?_); simp [pairs]; repeat' (first | (with_reducible refine hA ?_; clear hA hB A B) | (with_reducible refine hB ?_; clear hA hB A B) | (with_reducible refine And.intro ?_ ?_) | (with_reducible intro hc)))
    | (with_reducible refine awp_seq ?_))
  simp

theorem compsL_len {n : Int} (es : List (Int × Int)) : okLen (compsL n es) := by
  unfold compsL
  split
  · rename_i h
    obtain ⟨m, rfl, hm1, hm2, hm3⟩ := valid_nat h
    simp; omega
  · simp
theorem partsL_okLen {n : Int} (es : List (Int × Int)) : okLen (partsL n es) ∧ ∀ p ∈ partsL n es, okLen p := by
  unfold partsL
  split
  · rename_i h
    obtain ⟨m, rfl, hm1, hm2, hm3⟩ := valid_nat h
    rw [Int.toNat_natCast]
    refine ⟨?_, fun p hp => ?_⟩
    · have := rootsK_le (compJ es).1 m
      have := partsK_length (compJ es).1 m
      rw [okLen]; omega
    · obtain ⟨r, hr, rfl⟩ := List.mem_map.1 hp
      have := partK_le (compJ es).1 m r
      rw [okLen]; omega
  · simp

theorem joinTells_ret {n : Int} {es : List (Int × Int)} (he : okLen es) : Ret Try.prog w0 3 [I n, pairs es] (B true) := by
  intro H
  have hcl := compsL_len (n := n) es
  have hp := partsL_okLen (n := n) es
  refine w_enter Try.func3 rfl Try.ntmps3 (ts := [4]) rfl (by simp) (by kernel_rfl) ?_
  repeat' (first
    | (with_reducible refine awp_skip ?_)
    | (with_reducible refine then_any ?_)
    | (with_reducible refine then_ret ?_)
    | (with_reducible refine then_exit ?_)
    | (with_reducible refine inBlock_normal ?_)
    | (with_reducible refine inBlock_ret ?_)
    | (with_reducible refine inBlock_hit ?_)
    | (with_reducible refine inBlock_miss (by decide) ?_)
    | (with_reducible refine awp_ret ?_)
    | (with_reducible refine awp_exit ?_)
    | (with_reducible refine post_ret ?_)
    | (with_reducible refine post_normal ?_)
    | (with_reducible refine awp_block ?_)
    | (with_reducible refine v_reg [] (fun K hK => ?_))
    | (with_reducible refine v_reg1 [] (fun K hK => ?_))
    | (with_reducible refine v_draw mixed [] [] (by kernel_rfl) (fun K hK => ?_))
    | (with_reducible refine v_draw1 mixed [] [] (by kernel_rfl) (fun K hK => ?_))
    | (with_reducible refine ev_nil (hK _ _ ?_); clear hK K)
    | (with_reducible refine ed_nil (hK _ _ ?_); clear hK K)
    | ((first | with_reducible refine ev_cons (fun K' hK' => ?_) | with_reducible refine ed_cons (fun K' hK' => ?_) | (with_reducible refine ev_id ?_; refine ev_guard rfl (fun K' hK' => ?_)) | (with_reducible refine ed_id ?_; refine ed_guard rfl (fun K' hK' => ?_))); simp [pairs]; repeat' (first | (with_reducible refine hK' _ _ ?_; clear hK' K') | (with_reducible refine Ret.use fixed3_ret ?_; try simp [pairs]) | (with_reducible refine Ret.use (comps_ret he) ?_; try simp [pairs]) | (with_reducible refine Ret.use (comps3_ret he) ?_; try simp [pairs]) | (with_reducible refine Ret.use (parts_ret he) ?_; try simp [pairs]) | (with_reducible refine Ret.use (parts3_ret he) ?_; try simp [pairs]) | (with_reducible refine Ret.use (same_ret hcl hcl) ?_; try simp [pairs]) | (with_reducible refine Ret.use (sets_ret hp.1 hp.1 hp.2 hp.2) ?_; try simp [pairs]) | (with_reducible refine Ret.use (rank_ret he) ?_; try simp [pairs]) | (with_reducible refine Ret.use (rank3_ret he) ?_; try simp [pairs]) | (with_reducible refine Ret.use (forestB_ret he) ?_; try simp [pairs]) | (with_reducible refine Ret.use (forest3_ret he) ?_; try simp [pairs]) | (with_reducible refine And.intro ?_ ?_) | (with_reducible intro hg) | (clear hK' K'; omega)))
    | (with_reducible refine w_cond (fun A B hA hB => ?_); simp [pairs]; repeat' (first | (with_reducible refine hA ?_; clear hA hB A B) | (with_reducible refine hB ?_; clear hA hB A B) | (with_reducible refine And.intro ?_ ?_) | (with_reducible intro hc)))
    | (with_reducible refine awp_seq ?_))
  all_goals simp
#print axioms joinTells_ret
end Go.Am
