/- Contracts: the reference's Flow, Enough (arcs). -/
import Derived.Test.YtkgcmgbndapjcaaW57
import Derived.Test.YtkgcmgbndapjcaaW10
namespace Go.Am
open Go Go.Proofs
set_option linter.unusedVariables false
set_option linter.unusedSimpArgs false
variable {w0 : World}
attribute [local irreducible] AWP ACalls
attribute [local congr] acalls_congr

theorem flow20_ret {n root v : Int} {arcs : List (Int × Int)} (ha : smLen arcs) (hn : n ≤ 30 ∨ 64 < n) : Ret Try.prog w0 17 [I n, pairs arcs, I root, I v] (flowT n arcs root v) := by
  intro H
  have hmay := may20_ret (w0 := w0) (n := n) (root := root) (k := 1) ha
  rw [mayK_one] at hmay
  refine w_enter Try.func17 rfl Try.ntmps17 (ts := [8, 9, 10]) rfl (by simp) (by kernel_rfl) ?_
  by_cases hok : mayF n arcs root v = true
  · have hok' := hok
    simp only [mayF, Bool.and_eq_true, decide_eq_true_eq] at hok'
    obtain ⟨⟨⟨hA, hv0⟩, hvn⟩, hvr⟩ := hok'
    obtain ⟨m, rfl, hm1, N⟩ := mayA_net hA
    have b1 : ¬ v < 0 := by omega
    have b2 : ¬ (m : Int) ≤ v := by omega
    have hnl := N.nle
    have hF := N.flow no0 ⟨hv0, hvn⟩ hvr
    have hl := least20_ret (w0 := w0) N (by omega) ⟨hv0, hvn⟩ hF
    repeat' (first
      | (with_reducible refine awp_skip ?_)
      | (with_reducible refine then_any ?_)
      | (with_reducible refine then_ret ?_)
      | (with_reducible refine then_exit ?_)
      | (with_reducible refine inBlock_normal ?_)
      | (with_reducible refine inBlock_ret ?_)
      | (with_reducible refine inBlock_hit ?_)
      | (with_reducible refine inBlock_miss (by decide) ?_)
      | (with_reducible refine awp_ret ?_)
      | (with_reducible refine awp_exit ?_)
      | (with_reducible refine post_ret ?_)
      | (with_reducible refine post_normal ?_)
      | (with_reducible refine awp_block ?_)
      | (with_reducible refine awp_scope_ret ?_)
      | (with_reducible refine awp_label ?_)
      | (with_reducible refine v_reg [] (fun K hK => ?_))
      | (with_reducible refine v_reg1 [] (fun K hK => ?_))
      | (with_reducible refine v_draw mixed [] [] (by kernel_rfl) (fun K hK => ?_))
      | (with_reducible refine v_draw1 mixed [] [] (by kernel_rfl) (fun K hK => ?_))
      | (with_reducible refine ev_nil (hK _ _ ?_); clear hK K)
      | (with_reducible refine ed_nil (hK _ _ ?_); clear hK K)
      | ((first | with_reducible refine ev_cons (fun K' hK' => ?_) | with_reducible refine ed_cons (fun K' hK' => ?_) | (with_reducible refine ev_id ?_; refine ev_guard rfl (fun K' hK' => ?_)) | (with_reducible refine ed_id ?_; refine ed_guard rfl (fun K' hK' => ?_))); simp [hA, b1, b2, hvr]; repeat' (first | (with_reducible refine hK' _ _ ?_; clear hK' K') | (with_reducible refine Ret.use hmay ?_; try simp [hA, b1, b2, hvr]) | (with_reducible refine Ret.use hl ?_; try simp [hA, b1, b2, hvr]) | (with_reducible refine And.intro ?_ ?_) | (with_reducible intro hg) | (clear hK' K'; omega)))
      | (with_reducible refine w_cond (fun A B hA hB => ?_); simp [hA, b1, b2, hvr]; repeat' (first | (with_reducible refine hA ?_; clear hA hB A B) | (with_reducible refine hB ?_; clear hA hB A B) | (with_reducible refine And.intro ?_ ?_) | (with_reducible intro hc)))
      | (with_reducible refine awp_seq ?_))
    simp [flowT, hok]
  · have hf : mayF n arcs root v = false := by simpa using hok
    cases hA : mayA n arcs root
    · repeat' (first
        | (with_reducible refine awp_skip ?_)
        | (with_reducible refine then_any ?_)
        | (with_reducible refine then_ret ?_)
        | (with_reducible refine then_exit ?_)
        | (with_reducible refine inBlock_normal ?_)
        | (with_reducible refine inBlock_ret ?_)
        | (with_reducible refine inBlock_hit ?_)
        | (with_reducible refine inBlock_miss (by decide) ?_)
        | (with_reducible refine awp_ret ?_)
        | (with_reducible refine awp_exit ?_)
        | (with_reducible refine post_ret ?_)
        | (with_reducible refine post_normal ?_)
        | (with_reducible refine awp_block ?_)
        | (with_reducible refine awp_scope_ret ?_)
        | (with_reducible refine awp_label ?_)
        | (with_reducible refine v_reg [] (fun K hK => ?_))
        | (with_reducible refine v_reg1 [] (fun K hK => ?_))
        | (with_reducible refine v_draw mixed [] [] (by kernel_rfl) (fun K hK => ?_))
        | (with_reducible refine v_draw1 mixed [] [] (by kernel_rfl) (fun K hK => ?_))
        | (with_reducible refine ev_nil (hK _ _ ?_); clear hK K)
        | (with_reducible refine ed_nil (hK _ _ ?_); clear hK K)
        | ((first | with_reducible refine ev_cons (fun K' hK' => ?_) | with_reducible refine ed_cons (fun K' hK' => ?_) | (with_reducible refine ev_id ?_; refine ev_guard rfl (fun K' hK' => ?_)) | (with_reducible refine ed_id ?_; refine ed_guard rfl (fun K' hK' => ?_))); simp [hA]; repeat' (first | (with_reducible refine hK' _ _ ?_; clear hK' K') | (with_reducible refine Ret.use hmay ?_; try simp [hA]) | (with_reducible refine And.intro ?_ ?_) | (with_reducible intro hg) | (clear hK' K'; omega)))
        | (with_reducible refine w_cond (fun A B hA hB => ?_); simp [hA]; repeat' (first | (with_reducible refine hA ?_; clear hA hB A B) | (with_reducible refine hB ?_; clear hA hB A B) | (with_reducible refine And.intro ?_ ?_) | (with_reducible intro hc)))
        | (with_reducible refine awp_seq ?_))
      simp [flowT, hf]
    · repeat' (first
        | (with_reducible refine awp_skip ?_)
        | (with_reducible refine then_any ?_)
        | (with_reducible refine then_ret ?_)
        | (with_reducible refine then_exit ?_)
        | (with_reducible refine inBlock_normal ?_)
        | (with_reducible refine inBlock_ret ?_)
        | (with_reducible refine inBlock_hit ?_)
        | (with_reducible refine inBlock_miss (by decide) ?_)
        | (with_reducible refine awp_ret ?_)
        | (with_reducible refine awp_exit ?_)
        | (with_reducible refine post_ret ?_)
        | (with_reducible refine post_normal ?_)
        | (with_reducible refine awp_block ?_)
        | (with_reducible refine awp_scope_ret ?_)
        | (with_reducible refine awp_label ?_)
        | (with_reducible refine v_reg [] (fun K hK => ?_))
        | (with_reducible refine v_reg1 [] (fun K hK => ?_))
        | (with_reducible refine v_draw mixed [] [] (by kernel_rfl) (fun K hK => ?_))
        | (with_reducible refine v_draw1 mixed [] [] (by kernel_rfl) (fun K hK => ?_))
        | (with_reducible refine ev_nil (hK _ _ ?_); clear hK K)
        | (with_reducible refine ed_nil (hK _ _ ?_); clear hK K)
        | ((first | with_reducible refine ev_cons (fun K' hK' => ?_) | with_reducible refine ed_cons (fun K' hK' => ?_) | (with_reducible refine ev_id ?_; refine ev_guard rfl (fun K' hK' => ?_)) | (with_reducible refine ed_id ?_; refine ed_guard rfl (fun K' hK' => ?_))); simp [hA]; repeat' (first | (with_reducible refine hK' _ _ ?_; clear hK' K') | (with_reducible refine Ret.use hmay ?_; try simp [hA]) | (with_reducible refine And.intro ?_ ?_) | (with_reducible intro hg) | (clear hK' K'; omega)))
        | (with_reducible refine w_cond (fun A B hA hB => ?_); simp [hA]; repeat' (first | (with_reducible refine hA ?_; clear hA hB A B) | (with_reducible refine hB ?_; clear hA hB A B) | (with_reducible refine And.intro ?_ ?_) | (with_reducible intro hc)))
        | (with_reducible refine awp_seq ?_))
      all_goals first
        | simp [flowT, hf]
        | (exfalso; simp [mayF, hA] at hf; omega)

/-- The arcs that are left. -/
def leftL (arcs : List (Int × Int)) (gone : List Int) (k : Nat) : List (Int × Int) := ((upto k).filter fun i => !decide (i ∈ gone)).map fun i => (tlA arcs i, hdA arcs i)
theorem entP_pairs (l : List (Int × Int)) (T : Int → Bool) : entP l no0 T = l.countP fun a => T a.2 && !T a.1 := by
  have : l = (upto l.length).map fun i => (tlA l i, hdA l i) := by
    refine List.ext_getElem (by simp) fun i h1 h2 => ?_
    rw [List.getElem_map, upto_get, ← tlA_get h1, ← hdA_get h1]
  conv => rhs; rw [this]
  rw [List.countP_map, entP]
  rfl
theorem left_ent (arcs : List (Int × Int)) (gone : List Int) (T : Int → Bool) : entP (leftL arcs gone arcs.length) no0 T = entP arcs (fun i => decide (i ∈ gone)) T := by
  rw [entP_pairs, leftL, List.countP_map, List.countP_filter, entP]
  refine List.countP_congr fun i _ => ?_
  show ((T (hdA arcs i) && !T (tlA arcs i)) && !decide (i ∈ gone)) = true ↔ _
  simp only [Bool.and_eq_true]
  constructor
  · rintro ⟨⟨a, b⟩, c⟩; exact ⟨⟨c, a⟩, b⟩
  · rintro ⟨⟨c, a⟩, b⟩; exact ⟨⟨a, b⟩, c⟩
theorem leftL_len (arcs : List (Int × Int)) (gone : List Int) (k : Nat) : (leftL arcs gone k).length ≤ k := by
  have := List.length_filter_le (fun i => !decide (i ∈ gone)) (upto k)
  rw [upto_length] at this
  simpa [leftL] using this
theorem NetA.left {n : Nat} {arcs : List (Int × Int)} {root : Int} (N : NetA n arcs root) (gone : List Int) : NetA n (leftL arcs gone arcs.length) root where
  nle := N.nle
  mle := Nat.le_trans (leftL_len _ _ _) N.mle
  root := N.root
  ends i h0 h1 := by
    have hi : i.toNat < (leftL arcs gone arcs.length).length := by omega
    have hm := List.getElem_mem hi
    have e1 : tlA (leftL arcs gone arcs.length) i = (leftL arcs gone arcs.length)[i.toNat].1 := by simp [tlA, hi]
    have e2 : hdA (leftL arcs gone arcs.length) i = (leftL arcs gone arcs.length)[i.toNat].2 := by simp [hdA, hi]
    rw [e1, e2]
    obtain ⟨j, hj, he⟩ := List.mem_map.1 hm
    rw [← he]
    obtain ⟨a, b⟩ := mem_upto.1 (List.mem_filter.1 hj).1
    exact N.ends j a b

set_option maxHeartbeats 1000000 in
theorem enough20_ret {n k : Nat} {arcs : List (Int × Int)} {gone : List Int} {root : Int} (N : NetA n arcs root) (hn : n ≤ 30) (hg : IsSet gone) (hgl : okLen gone) :
    Ret Try.prog w0 56 [I n, pairs arcs, ints gone, I root, I k] (B (enoughB arcs n (fun i => decide (i ∈ gone)) root k)) := by
  intro H
  have hm := N.mle
  have hri := rises_iff.2 hg
  refine w_enter Try.func56 rfl Try.ntmps56 (ts := [10]) rfl (by simp) (by kernel_rfl) ?_
  repeat' (first
    | (with_reducible refine awp_skip ?_)
    | (with_reducible refine then_any ?_)
    | (with_reducible refine then_ret ?_)
    | (with_reducible refine then_exit ?_)
    | (with_reducible refine inBlock_normal ?_)
    | (with_reducible refine inBlock_ret ?_)
    | (with_reducible refine inBlock_hit ?_)
    | (with_reducible refine inBlock_miss (by decide) ?_)
    | (with_reducible refine awp_ret ?_)
    | (with_reducible refine awp_exit ?_)
    | (with_reducible refine post_ret ?_)
    | (with_reducible refine post_normal ?_)
    | (with_reducible refine awp_block ?_)
    | (with_reducible refine awp_scope_ret ?_)
    | (with_reducible refine awp_label ?_)
    | (with_reducible refine v_reg [16] (fun K hK => ?_))
    | (with_reducible refine v_reg1 [16] (fun K hK => ?_))
    | (with_reducible refine v_draw mixed [16] [] (by kernel_rfl) (fun K hK => ?_))
    | (with_reducible refine v_draw1 mixed [16] [] (by kernel_rfl) (fun K hK => ?_))
    | (with_reducible refine ev_nil (hK _ _ ?_); clear hK K)
    | (with_reducible refine ed_nil (hK _ _ ?_); clear hK K)
    | ((first | with_reducible refine ev_cons (fun K' hK' => ?_) | with_reducible refine ed_cons (fun K' hK' => ?_) | (with_reducible refine ev_id ?_; refine ev_guard rfl (fun K' hK' => ?_)) | (with_reducible refine ed_id ?_; refine ed_guard rfl (fun K' hK' => ?_))); simp [pairs, ints]; repeat' (first | (with_reducible refine hK' _ _ ?_; clear hK' K') | (with_reducible refine And.intro ?_ ?_) | (with_reducible intro hg) | (clear hK' K'; omega)))
    | (with_reducible refine w_cond (fun A B hA hB => ?_); simp [pairs, ints]; repeat' (first | (with_reducible refine hA ?_; clear hA hB A B) | (with_reducible refine hB ?_; clear hA hB A B) | (with_reducible refine And.intro ?_ ?_) | (with_reducible intro hc)))
    | (with_reducible refine awp_seq ?_))
  rename_i O
  have hO : H O = none := by assumption
  refine awp_loop (fun env h => ∃ i : Nat, i ≤ arcs.length ∧ env 12 = I i ∧ env 0 = I n ∧ env 1 = pairs arcs ∧ env 2 = ints gone ∧ env 3 = I root ∧ env 4 = I k ∧ env 11 = .ref O 0 (leftL arcs gone i).length (leftL arcs gone i).length ∧
      h = upd H O (some (.arr 2 44 ((leftL arcs gone i).flatMap fun e => [I e.1, I e.2]) (leftL arcs gone i).length))) (fun env _ => arcs.length - natA (env 12)) ?_ ?_
  · exact ⟨0, by omega, by simp, by simp, by simp [pairs], by simp [ints], by simp, by simp, by simp [leftL, upto_zero], by simp [leftL, upto_zero]⟩
  rintro env h ⟨i, hi, h12, h0, h1, h2, h3, h4, h11, rfl⟩
  have hnat : natA (env 12) = i := by simp [h12]
  rw [hnat]; clear hnat
  by_cases hlt : i < arcs.length
  · have hp := pairs_get hlt
    rw [tlA_get hlt, hdA_get hlt] at hp
    have hhas := has2_ret (w0 := w0) (l := gone) (x := (i : Int)) hgl
    rw [hri, Bool.true_and] at hhas
    have hfs : leftL arcs gone (i + 1) = leftL arcs gone i ++ if (i : Int) ∈ gone then [] else [(tlA arcs i, hdA arcs i)] := by
      rw [leftL, upto_succ, List.filter_append, List.filter_cons, List.map_append]
      by_cases h : (i : Int) ∈ gone <;> simp [h, leftL]
    have hle := leftL_len arcs gone i
    generalize leftL arcs gone i = o at *
    by_cases hin : (i : Int) ∈ gone
    · rw [if_pos hin, List.append_nil] at hfs
      repeat' (first
        | (with_reducible refine awp_skip ?_)
        | (with_reducible refine then_any ?_)
        | (with_reducible refine then_ret ?_)
        | (with_reducible refine then_exit ?_)
        | (with_reducible refine inBlock_normal ?_)
        | (with_reducible refine inBlock_ret ?_)
        | (with_reducible refine inBlock_hit ?_)
        | (with_reducible refine inBlock_miss (by decide) ?_)
        | (with_reducible refine awp_ret ?_)
        | (with_reducible refine awp_exit ?_)
        | (with_reducible refine post_ret ?_)
        | (with_reducible refine post_normal ?_)
        | (with_reducible refine awp_block ?_)
        | (with_reducible refine awp_scope_ret ?_)
        | (with_reducible refine awp_label ?_)
        | (with_reducible refine v_reg [] (fun K hK => ?_))
        | (with_reducible refine v_reg1 [] (fun K hK => ?_))
        | (with_reducible refine v_draw mixed [] [] (by kernel_rfl) (fun K hK => ?_))
        | (with_reducible refine v_draw1 mixed [] [] (by kernel_rfl) (fun K hK => ?_))
        | (with_reducible refine ev_nil (hK _ _ ?_); clear hK K)
        | (with_reducible refine ed_nil (hK _ _ ?_); clear hK K)
        | ((first | with_reducible refine ev_cons (fun K' hK' => ?_) | with_reducible refine ed_cons (fun K' hK' => ?_) | (with_reducible refine ev_id ?_; refine ev_guard rfl (fun K' hK' => ?_)) | (with_reducible refine ed_id ?_; refine ed_guard rfl (fun K' hK' => ?_))); simp [h12, h0, h1, h2, h3, h4, h11, hlt, hin, pairs]; repeat' (first | (with_reducible refine hK' _ _ ?_; clear hK' K') | (with_reducible refine Ret.use hhas ?_; try simp [h12, h0, h1, h2, h3, h4, h11, hlt, hin, pairs]) | (with_reducible refine And.intro ?_ ?_) | (with_reducible intro hg) | (clear hK' K'; omega)))
        | (with_reducible refine w_cond (fun A B hA hB => ?_); simp [h12, h0, h1, h2, h3, h4, h11, hlt, hin, pairs]; repeat' (first | (with_reducible refine hA ?_; clear hA hB A B) | (with_reducible refine hB ?_; clear hA hB A B) | (with_reducible refine And.intro ?_ ?_) | (with_reducible intro hc)))
        | (with_reducible refine awp_seq ?_))
      exact ⟨⟨i + 1, by omega, by simp, by simp [h0], by simp [h1, pairs], by simp [h2], by simp [h3], by simp [h4], by rw [hfs]; simp [h11], by rw [hfs]⟩, by simp; omega⟩
    · rw [if_neg hin] at hfs
      repeat' (first
        | (with_reducible refine awp_skip ?_)
        | (with_reducible refine then_any ?_)
        | (with_reducible refine then_ret ?_)
        | (with_reducible refine then_exit ?_)
        | (with_reducible refine inBlock_normal ?_)
        | (with_reducible refine inBlock_ret ?_)
        | (with_reducible refine inBlock_hit ?_)
        | (with_reducible refine inBlock_miss (by decide) ?_)
        | (with_reducible refine awp_ret ?_)
        | (with_reducible refine awp_exit ?_)
        | (with_reducible refine post_ret ?_)
        | (with_reducible refine post_normal ?_)
        | (with_reducible refine awp_block ?_)
        | (with_reducible refine awp_scope_ret ?_)
        | (with_reducible refine awp_label ?_)
        | (with_reducible refine v_reg [] (fun K hK => ?_))
        | (with_reducible refine v_reg1 [] (fun K hK => ?_))
        | (with_reducible refine v_draw mixed [] [] (by kernel_rfl) (fun K hK => ?_))
        | (with_reducible refine v_draw1 mixed [] [] (by kernel_rfl) (fun K hK => ?_))
        | (with_reducible refine ev_nil (hK _ _ ?_); clear hK K)
        | (with_reducible refine ed_nil (hK _ _ ?_); clear hK K)
        | ((first | with_reducible refine ev_cons (fun K' hK' => ?_) | with_reducible refine ed_cons (fun K' hK' => ?_) | (with_reducible refine ev_id ?_; refine ev_guard rfl (fun K' hK' => ?_)) | (with_reducible refine ed_id ?_; refine ed_guard rfl (fun K' hK' => ?_))); simp [h12, h0, h1, h2, h3, h4, h11, hlt, hin, pairs, pairs_len, sum2, hp.1, hp.2.1, hp.2.2]; repeat' (first | (with_reducible refine hK' _ _ ?_; clear hK' K') | (with_reducible refine Ret.use hhas ?_; try simp [h12, h0, h1, h2, h3, h4, h11, hlt, hin, pairs, pairs_len, sum2, hp.1, hp.2.1, hp.2.2]) | (with_reducible refine And.intro ?_ ?_) | (with_reducible intro hg) | (clear hK' K'; omega)))
        | (with_reducible refine w_cond (fun A B hA hB => ?_); simp [h12, h0, h1, h2, h3, h4, h11, hlt, hin, pairs, pairs_len, sum2, hp.1, hp.2.1, hp.2.2]; repeat' (first | (with_reducible refine hA ?_; clear hA hB A B) | (with_reducible refine hB ?_; clear hA hB A B) | (with_reducible refine And.intro ?_ ?_) | (with_reducible intro hc)))
        | (with_reducible refine awp_seq ?_))
      exact ⟨⟨i + 1, by omega, by simp, by simp [h0], by simp [h1, pairs], by simp [h2], by simp [h3], by simp [h4], by rw [hfs]; simp, by rw [hfs]; simp⟩, by simp; omega⟩
  · have : i = arcs.length := by omega
    subst this
    refine awp_frz 11 h11 hO fun env' he he2 => ?_
    rw [cut_pairs _ rfl] at he
    have N2 := N.left gone
    have hent := left_ent arcs gone
    have h12' : env' 12 = I arcs.length := by rw [he2 _ (by decide), h12]
    have h0' : env' 0 = I n := by rw [he2 _ (by decide), h0]
    have h1' : env' 1 = pairs arcs := by rw [he2 _ (by decide), h1]
    have h3' : env' 3 = I root := by rw [he2 _ (by decide), h3]
    have h4' : env' 4 = I k := by rw [he2 _ (by decide), h4]
    clear h12 h0 h1 h2 h3 h4 h11
    generalize hL : leftL arcs gone arcs.length = L at *
    repeat' (first
      | (with_reducible refine awp_skip ?_)
      | (with_reducible refine then_any ?_)
      | (with_reducible refine then_ret ?_)
      | (with_reducible refine then_exit ?_)
      | (with_reducible refine inBlock_normal ?_)
      | (with_reducible refine inBlock_ret ?_)
      | (with_reducible refine inBlock_hit ?_)
      | (with_reducible refine inBlock_miss (by decide) ?_)
      | (with_reducible refine awp_ret ?_)
      | (with_reducible refine awp_exit ?_)
      | (with_reducible refine post_ret ?_)
      | (with_reducible refine post_normal ?_)
      | (with_reducible refine awp_block ?_)
      | (with_reducible refine awp_scope_ret ?_)
      | (with_reducible refine awp_label ?_)
      | (with_reducible refine v_reg [] (fun K hK => ?_))
      | (with_reducible refine v_reg1 [] (fun K hK => ?_))
      | (with_reducible refine v_draw mixed [] [] (by kernel_rfl) (fun K hK => ?_))
      | (with_reducible refine v_draw1 mixed [] [] (by kernel_rfl) (fun K hK => ?_))
      | (with_reducible refine ev_nil (hK _ _ ?_); clear hK K)
      | (with_reducible refine ed_nil (hK _ _ ?_); clear hK K)
      | ((first | with_reducible refine ev_cons (fun K' hK' => ?_) | with_reducible refine ed_cons (fun K' hK' => ?_) | (with_reducible refine ev_id ?_; refine ev_guard rfl (fun K' hK' => ?_)) | (with_reducible refine ed_id ?_; refine ed_guard rfl (fun K' hK' => ?_))); simp [h12', h0', h1', pairs]; repeat' (first | (with_reducible refine hK' _ _ ?_; clear hK' K') | (with_reducible refine And.intro ?_ ?_) | (with_reducible intro hg) | (clear hK' K'; omega)))
      | (with_reducible refine w_cond (fun A B hA hB => ?_); simp [h12', h0', h1', pairs]; repeat' (first | (with_reducible refine hA ?_; clear hA hB A B) | (with_reducible refine hB ?_; clear hA hB A B) | (with_reducible refine And.intro ?_ ?_) | (with_reducible intro hc)))
      | (with_reducible refine awp_seq ?_))
    refine awp_loop (fun env h => ∃ v : Nat, v ≤ n ∧ (∀ u : Int, 0 ≤ u → u < v → u ≠ root → EnoughAt L no0 root k u) ∧ env 13 = I v ∧ env 0 = I n ∧ env 11 = pairs L ∧ env 3 = I root ∧ env 4 = I k ∧ h = H) (fun env _ => n - natA (env 13)) ?_ ?_
    · exact ⟨0, by omega, fun u a b => by omega, by simp, by simp [h0'], by simp [he, pairs], by simp [h3'], by simp [h4'], rfl⟩
    clear h12' h0' h1' h3' h4' he he2
    rintro env h ⟨v, hv, hE, h13, h0, h11, h3, h4, rfl⟩
    have hnat : natA (env 13) = v := by simp [h13]
    rw [hnat]; clear hnat
    have hEq : ∀ {T : Int → Bool}, entP L no0 T = entP arcs (fun i => decide (i ∈ gone)) T := fun {T} => hent T
    by_cases hlt : v < n
    · by_cases hr : (v : Int) = root
      · subst hr
        repeat' (first
          | (with_reducible refine awp_skip ?_)
          | (with_reducible refine then_any ?_)
          | (with_reducible refine then_ret ?_)
          | (with_reducible refine then_exit ?_)
          | (with_reducible refine inBlock_normal ?_)
          | (with_reducible refine inBlock_ret ?_)
          | (with_reducible refine inBlock_hit ?_)
          | (with_reducible refine inBlock_miss (by decide) ?_)
          | (with_reducible refine awp_ret ?_)
          | (with_reducible refine awp_exit ?_)
          | (with_reducible refine post_ret ?_)
          | (with_reducible refine post_normal ?_)
          | (with_reducible refine awp_block ?_)
          | (with_reducible refine awp_scope_ret ?_)
          | (with_reducible refine awp_label ?_)
          | (with_reducible refine v_reg [] (fun K hK => ?_))
          | (with_reducible refine v_reg1 [] (fun K hK => ?_))
          | (with_reducible refine v_draw mixed [] [] (by kernel_rfl) (fun K hK => ?_))
          | (with_reducible refine v_draw1 mixed [] [] (by kernel_rfl) (fun K hK => ?_))
          | (with_reducible refine ev_nil (hK _ _ ?_); clear hK K)
          | (with_reducible refine ed_nil (hK _ _ ?_); clear hK K)
          | ((first | with_reducible refine ev_cons (fun K' hK' => ?_) | with_reducible refine ed_cons (fun K' hK' => ?_) | (with_reducible refine ev_id ?_; refine ev_guard rfl (fun K' hK' => ?_)) | (with_reducible refine ed_id ?_; refine ed_guard rfl (fun K' hK' => ?_))); simp [h13, h0, h11, h3, h4, hlt]; repeat' (first | (with_reducible refine hK' _ _ ?_; clear hK' K') | (with_reducible refine And.intro ?_ ?_) | (with_reducible intro hg) | (clear hK' K'; omega)))
          | (with_reducible refine w_cond (fun A B hA hB => ?_); simp [h13, h0, h11, h3, h4, hlt]; repeat' (first | (with_reducible refine hA ?_; clear hA hB A B) | (with_reducible refine hB ?_; clear hA hB A B) | (with_reducible refine And.intro ?_ ?_) | (with_reducible intro hc)))
          | (with_reducible refine awp_seq ?_))
        exact ⟨⟨v + 1, by omega, fun u a b c => hE u a (by omega) c, by simp, by simp [h0], by simp [h11], by simp [h3], by simp [h4], rfl⟩, by simp; omega⟩
      · have hF := N2.flow no0 ⟨by omega, by omega⟩ hr
        have hl := least20_ret (w0 := w0) (v := (v : Int)) N2 hn ⟨by omega, by omega⟩ hF
        by_cases hu : (flowA L n no0 root v).1 < k
        · have hall : enoughB arcs n (fun i => decide (i ∈ gone)) root k = false := enoughB_false.2 fun he => by
            have h1 := enough_iff.1 he v (by omega) (by omega) hr (fun u => decide (u ∈ (flowA L n no0 root v).2)) (by simp [hF.nroot]) (by simp [hF.has])
            rw [← hEq, hF.is] at h1
            omega
          repeat' (first
            | (with_reducible refine awp_skip ?_)
            | (with_reducible refine then_any ?_)
            | (with_reducible refine then_ret ?_)
            | (with_reducible refine then_exit ?_)
            | (with_reducible refine inBlock_normal ?_)
            | (with_reducible refine inBlock_ret ?_)
            | (with_reducible refine inBlock_hit ?_)
            | (with_reducible refine inBlock_miss (by decide) ?_)
            | (with_reducible refine awp_ret ?_)
            | (with_reducible refine awp_exit ?_)
            | (with_reducible refine post_ret ?_)
            | (with_reducible refine post_normal ?_)
            | (with_reducible refine awp_block ?_)
            | (with_reducible refine awp_scope_ret ?_)
            | (with_reducible refine awp_label ?_)
            | (with_reducible refine v_reg [] (fun K hK => ?_))
            | (with_reducible refine v_reg1 [] (fun K hK => ?_))
            | (with_reducible refine v_draw mixed [] [] (by kernel_rfl) (fun K hK => ?_))
            | (with_reducible refine v_draw1 mixed [] [] (by kernel_rfl) (fun K hK => ?_))
            | (with_reducible refine ev_nil (hK _ _ ?_); clear hK K)
            | (with_reducible refine ed_nil (hK _ _ ?_); clear hK K)
            | ((first | with_reducible refine ev_cons (fun K' hK' => ?_) | with_reducible refine ed_cons (fun K' hK' => ?_) | (with_reducible refine ev_id ?_; refine ev_guard rfl (fun K' hK' => ?_)) | (with_reducible refine ed_id ?_; refine ed_guard rfl (fun K' hK' => ?_))); simp [h13, h0, h11, h3, h4, hlt, hr, hu]; repeat' (first | (with_reducible refine hK' _ _ ?_; clear hK' K') | (with_reducible refine Ret.use hl ?_; try simp [h13, h0, h11, h3, h4, hlt, hr, hu]) | (with_reducible refine And.intro ?_ ?_) | (with_reducible intro hg) | (clear hK' K'; omega)))
            | (with_reducible refine w_cond (fun A B hA hB => ?_); simp [h13, h0, h11, h3, h4, hlt, hr, hu]; repeat' (first | (with_reducible refine hA ?_; clear hA hB A B) | (with_reducible refine hB ?_; clear hA hB A B) | (with_reducible refine And.intro ?_ ?_) | (with_reducible intro hc)))
            | (with_reducible refine awp_seq ?_))
          simp [hall]
        · repeat' (first
            | (with_reducible refine awp_skip ?_)
            | (with_reducible refine then_any ?_)
            | (with_reducible refine then_ret ?_)
            | (with_reducible refine then_exit ?_)
            | (with_reducible refine inBlock_normal ?_)
            | (with_reducible refine inBlock_ret ?_)
            | (with_reducible refine inBlock_hit ?_)
            | (with_reducible refine inBlock_miss (by decide) ?_)
            | (with_reducible refine awp_ret ?_)
            | (with_reducible refine awp_exit ?_)
            | (with_reducible refine post_ret ?_)
            | (with_reducible refine post_normal ?_)
            | (with_reducible refine awp_block ?_)
            | (with_reducible refine awp_scope_ret ?_)
            | (with_reducible refine awp_label ?_)
            | (with_reducible refine v_reg [] (fun K hK => ?_))
            | (with_reducible refine v_reg1 [] (fun K hK => ?_))
            | (with_reducible refine v_draw mixed [] [] (by kernel_rfl) (fun K hK => ?_))
            | (with_reducible refine v_draw1 mixed [] [] (by kernel_rfl) (fun K hK => ?_))
            | (with_reducible refine ev_nil (hK _ _ ?_); clear hK K)
            | (with_reducible refine ed_nil (hK _ _ ?_); clear hK K)
            | ((first | with_reducible refine ev_cons (fun K' hK' => ?_) | with_reducible refine ed_cons (fun K' hK' => ?_) | (with_reducible refine ev_id ?_; refine ev_guard rfl (fun K' hK' => ?_)) | (with_reducible refine ed_id ?_; refine ed_guard rfl (fun K' hK' => ?_))); simp [h13, h0, h11, h3, h4, hlt, hr, hu]; repeat' (first | (with_reducible refine hK' _ _ ?_; clear hK' K') | (with_reducible refine Ret.use hl ?_; try simp [h13, h0, h11, h3, h4, hlt, hr, hu]) | (with_reducible refine And.intro ?_ ?_) | (with_reducible intro hg) | (clear hK' K'; omega)))
            | (with_reducible refine w_cond (fun A B hA hB => ?_); simp [h13, h0, h11, h3, h4, hlt, hr, hu]; repeat' (first | (with_reducible refine hA ?_; clear hA hB A B) | (with_reducible refine hB ?_; clear hA hB A B) | (with_reducible refine And.intro ?_ ?_) | (with_reducible intro hc)))
            | (with_reducible refine awp_seq ?_))
          refine ⟨⟨v + 1, by omega, fun u a b c => ?_, by simp, by simp [h0], by simp [h11], by simp [h3], by simp [h4], rfl⟩, by simp; omega⟩
          by_cases e : u = v
          · rw [e]
            intro T t1 t2
            have := hF.least T t1 t2
            omega
          · exact hE u a (by omega) c
    · have : v = n := by omega
      subst this
      have hall : enoughB arcs v (fun i => decide (i ∈ gone)) root k = true := enoughB_true.2 (enough_iff.2 fun u a b c T t1 t2 => by
        rw [← hEq]; exact hE u a (by omega) c T t1 t2)
      repeat' (first
        | (with_reducible refine awp_skip ?_)
        | (with_reducible refine then_any ?_)
        | (with_reducible refine then_ret ?_)
        | (with_reducible refine then_exit ?_)
        | (with_reducible refine inBlock_normal ?_)
        | (with_reducible refine inBlock_ret ?_)
        | (with_reducible refine inBlock_hit ?_)
        | (with_reducible refine inBlock_miss (by decide) ?_)
        | (with_reducible refine awp_ret ?_)
        | (with_reducible refine awp_exit ?_)
        | (with_reducible refine post_ret ?_)
        | (with_reducible refine post_normal ?_)
        | (with_reducible refine awp_block ?_)
        | (with_reducible refine awp_scope_ret ?_)
        | (with_reducible refine awp_label ?_)
        | (with_reducible refine v_reg [] (fun K hK => ?_))
        | (with_reducible refine v_reg1 [] (fun K hK => ?_))
        | (with_reducible refine v_draw mixed [] [] (by kernel_rfl) (fun K hK => ?_))
        | (with_reducible refine v_draw1 mixed [] [] (by kernel_rfl) (fun K hK => ?_))
        | (with_reducible refine ev_nil (hK _ _ ?_); clear hK K)
        | (with_reducible refine ed_nil (hK _ _ ?_); clear hK K)
        | ((first | with_reducible refine ev_cons (fun K' hK' => ?_) | with_reducible refine ed_cons (fun K' hK' => ?_) | (with_reducible refine ev_id ?_; refine ev_guard rfl (fun K' hK' => ?_)) | (with_reducible refine ed_id ?_; refine ed_guard rfl (fun K' hK' => ?_))); simp [h13, h0]; repeat' (first | (with_reducible refine hK' _ _ ?_; clear hK' K') | (with_reducible refine And.intro ?_ ?_) | (with_reducible intro hg) | (clear hK' K'; omega)))
        | (with_reducible refine w_cond (fun A B hA hB => ?_); simp [h13, h0]; repeat' (first | (with_reducible refine hA ?_; clear hA hB A B) | (with_reducible refine hB ?_; clear hA hB A B) | (with_reducible refine And.intro ?_ ?_) | (with_reducible intro hc)))
        | (with_reducible refine awp_seq ?_))
      simp [hall]
end Go.Am
