/- Contracts: Flow (arcs). -/
import Derived.Test.YtkgcmgbndapjcaaM18
namespace Go.Am
open Go Go.Proofs
set_option linter.unusedVariables false
set_option linter.unusedSimpArgs false
variable {w0 : World}
attribute [local irreducible] AWP ACalls
attribute [local congr] acalls_congr

/-- May a flow to v be asked? -/
def mayF (n : Int) (arcs : List (Int × Int)) (root v : Int) : Bool := mayA n arcs root && decide (0 ≤ v) && decide (v < n) && decide (v ≠ root)
noncomputable def flowT (n : Int) (arcs : List (Int × Int)) (root v : Int) : AV :=
  if mayF n arcs root v then .tup [I (flowA arcs n.toNat no0 root v).1, ints (flowA arcs n.toNat no0 root v).2, I 0] else .tup [I 0, ints [], I 1]
theorem mayK_one {n : Int} {arcs : List (Int × Int)} {root : Int} : mayK n arcs root 1 = mayA n arcs root := by simp [mayK]
theorem notC_take {come : Int → Bool} {i : Nat} : (upto (i + 1)).filter (fun u => !come u) = (upto i).filter (fun u => !come u) ++ if come i = true then [] else [(i : Int)] := by
  rw [upto_succ, List.filter_append, List.filter_cons]
  by_cases h : come i = true <;> simp [h]

set_option maxHeartbeats 1000000 in
theorem flow_ret {n root v : Int} {arcs : List (Int × Int)} (ha : smLen arcs) : Ret Try.prog w0 16 [I n, pairs arcs, I root, I v] (flowT n arcs root v) := by
  intro H
  have hmay := arcsMay_ret (w0 := w0) (n := n) (root := root) (k := 1) ha
  rw [mayK_one] at hmay
  refine w_enter Try.func16 rfl Try.ntmps16 (ts := [8, 9, 10]) rfl (by simp) (by kernel_rfl) ?_
  by_cases hok : mayF n arcs root v = true
  · have hok' := hok
    simp only [mayF, Bool.and_eq_true, decide_eq_true_eq] at hok'
    obtain ⟨⟨⟨hA, hv0⟩, hvn⟩, hvr⟩ := hok'
    obtain ⟨m, rfl, hm1, N⟩ := mayA_net hA
    have b1 : ¬ v < 0 := by omega
    have b2 : ¬ (m : Int) ≤ v := by omega
    have hml := N.mle
    have hnl := N.nle
    have hmost := fun (H : Heap) (K : AV → Heap → Prop) (G : Nat) (hG : H G = some (Blk.arr 1 4 (labB arcs.length no0) arcs.length)) k' => most_use (w0 := w0) (K := K) (enough := arcs.length + 1) N hG ⟨hv0, hvn⟩ hvr (by omega) k'
    have ecast : ((arcs.length + 1 : Nat) : Int) = (arcs.length : Int) + 1 := by omega
    simp only [ecast, ← labB_rep] at hmost
    repeat' (first
      | (with_reducible refine awp_skip ?_)
      | (with_reducible refine then_any ?_)
      | (with_reducible refine then_ret ?_)
      | (with_reducible refine then_exit ?_)
      | (with_reducible refine inBlock_normal ?_)
      | (with_reducible refine inBlock_ret ?_)
      | (with_reducible refine inBlock_hit ?_)
      | (with_reducible refine inBlock_miss (by decide) ?_)
      | (with_reducible refine awp_ret ?_)
      | (with_reducible refine awp_exit ?_)
      | (with_reducible refine post_ret ?_)
      | (with_reducible refine post_normal ?_)
      | (with_reducible refine awp_block ?_)
      | (with_reducible refine v_reg [13] (fun K hK => ?_))
      | (with_reducible refine v_reg1 [13] (fun K hK => ?_))
      | (with_reducible refine v_draw mixed [13] [] (by kernel_rfl) (fun K hK => ?_))
      | (with_reducible refine v_draw1 mixed [13] [] (by kernel_rfl) (fun K hK => ?_))
      | (with_reducible refine ev_nil (hK _ _ ?_); clear hK K)
      | (with_reducible refine ed_nil (hK _ _ ?_); clear hK K)
      | ((first | with_reducible refine ev_cons (fun K' hK' => ?_) | with_reducible refine ed_cons (fun K' hK' => ?_) | (with_reducible refine ev_id ?_; refine ev_guard rfl (fun K' hK' => ?_)) | (with_reducible refine ed_id ?_; refine ed_guard rfl (fun K' hK' => ?_))); simp [pairs, hA, b1, b2, hvr]; repeat' (first | (with_reducible refine hK' _ _ ?_; clear hK' K') | (with_reducible refine Ret.use hmay ?_; try simp [pairs, hA, b1, b2, hvr]) | ((with_reducible refine hmost _ _ _ (by simp) (fun units full by' come hf hw hc hu => ?_)); try simp [pairs, hA, b1, b2, hvr]) | (with_reducible refine And.intro ?_ ?_) | (with_reducible intro hg) | (clear hK' K'; omega)))
      | (with_reducible refine w_cond (fun A B hA hB => ?_); simp [pairs, hA, b1, b2, hvr]; repeat' (first | (with_reducible refine hA ?_; clear hA hB A B) | (with_reducible refine hB ?_; clear hA hB A B) | (with_reducible refine And.intro ?_ ?_) | (with_reducible intro hc)))
      | (with_reducible refine awp_seq ?_))
    rename_i G hG O
    obtain ⟨hOG, hO⟩ : O ≠ G ∧ H O = none := by
      have h1 : O ≠ G := by rintro rfl; simp at hg
      exact ⟨h1, by rw [if_neg h1] at hg; exact hg⟩
    clear hg
    have hsub : ∀ {h'}, Sub H (upd (upd H G h') O none) := fun {h'} => ((Sub.refl H).upd hG _).upd hO _
    have hc' : come v = false := by
      rcases hc with h | h
      · exact h
      · obtain ⟨u, s, hF⟩ := N.ans no0 ⟨hv0, hvn⟩ hvr
        have := flow_le hF
        have h2 := N.units_le hf ⟨hv0, hvn⟩ (fun u => decide (u ∈ s)) (by simp [hF.nroot]) (by simp [hF.has])
        rw [hF.is] at h2
        omega
    have hans := (N.most_ans hf hw ⟨hv0, hvn⟩ hc').eq
    have hT : flowT m arcs root v = .tup [I units, ints (notC m come), I 0] := by
      rw [flowT, if_pos hok, show ((m : Int)).toNat = m by omega, hans]
    refine awp_loop (fun env h => ∃ i : Nat, i ≤ m ∧ env 51 = I i ∧ env 50 = I m ∧ env 49 = .sl (labB m come) m ∧ env 11 = I units ∧
        env 13 = .ref O 0 ((upto i).filter fun u => !come u).length ((upto i).filter fun u => !come u).length ∧
        ∃ h', h = upd (upd H G h') O (some (.arr 1 3 (((upto i).filter fun u => !come u).map I) ((upto i).filter fun u => !come u).length))) (fun env _ => m - natA (env 51)) ?_ ?_
    · exact ⟨0, by omega, by simp, by simp, by simp, by simp, by simp [upto_zero], _, by simp only [upto_zero, List.filter_nil, List.map_nil, List.length_nil]; rfl⟩
    rintro env h ⟨i, hi, h51, h50, h49, h11, h13, h', rfl⟩
    have hnat : natA (env 51) = i := by simp [h51]
    rw [hnat]; clear hnat
    by_cases hlt : i < m
    · have hat : ∀ h : i < (labB m come).length, (labB m come)[i]'h = B (come i) := fun h => by
        have := labB_at (n := m) (s := come) (x := (i : Int)) (by omega) (by simpa using h)
        simpa using this
      have hll := labB_length m come
      have hfs := notC_take (come := come) (i := i)
      have hle := List.length_filter_le (fun u => !come u) (upto i)
      rw [upto_length] at hle
      generalize (upto i).filter (fun u => !come u) = o at *
      cases hci : come i
      · rw [hci] at hfs
        simp only [Bool.false_eq_true, if_false] at hfs
        repeat' (first
          | (with_reducible refine awp_skip ?_)
          | (with_reducible refine then_any ?_)
          | (with_reducible refine then_ret ?_)
          | (with_reducible refine then_exit ?_)
          | (with_reducible refine inBlock_normal ?_)
          | (with_reducible refine inBlock_ret ?_)
          | (with_reducible refine inBlock_hit ?_)
          | (with_reducible refine inBlock_miss (by decide) ?_)
          | (with_reducible refine awp_ret ?_)
          | (with_reducible refine awp_exit ?_)
          | (with_reducible refine post_ret ?_)
          | (with_reducible refine post_normal ?_)
          | (with_reducible refine awp_block ?_)
          | (with_reducible refine v_reg [] (fun K hK => ?_))
          | (with_reducible refine v_reg1 [] (fun K hK => ?_))
          | (with_reducible refine v_draw mixed [] [] (by kernel_rfl) (fun K hK => ?_))
          | (with_reducible refine v_draw1 mixed [] [] (by kernel_rfl) (fun K hK => ?_))
          | (with_reducible refine ev_nil (hK _ _ ?_); clear hK K)
          | (with_reducible refine ed_nil (hK _ _ ?_); clear hK K)
          | ((first | with_reducible refine ev_cons (fun K' hK' => ?_) | with_reducible refine ed_cons (fun K' hK' => ?_) | (with_reducible refine ev_id ?_; refine ev_guard rfl (fun K' hK' => ?_)) | (with_reducible refine ed_id ?_; refine ed_guard rfl (fun K' hK' => ?_))); simp [h51, h50, h49, h11, h13, hlt, hll, hat, hci]; repeat' (first | (with_reducible refine hK' _ _ ?_; clear hK' K') | (with_reducible refine And.intro ?_ ?_) | (with_reducible intro hg) | (clear hK' K'; omega)))
          | (with_reducible refine w_cond (fun A B hA hB => ?_); simp [h51, h50, h49, h11, h13, hlt, hll, hat, hci]; repeat' (first | (with_reducible refine hA ?_; clear hA hB A B) | (with_reducible refine hB ?_; clear hA hB A B) | (with_reducible refine And.intro ?_ ?_) | (with_reducible intro hc)))
          | (with_reducible refine awp_seq ?_))
        exact ⟨⟨i + 1, by omega, by simp, by simp [h50], by simp [h49], by simp [h11], by rw [hfs]; simp, h', by rw [hfs]; simp⟩, by simp; omega⟩
      · rw [hci] at hfs
        simp only [if_true, List.append_nil] at hfs
        repeat' (first
          | (with_reducible refine awp_skip ?_)
          | (with_reducible refine then_any ?_)
          | (with_reducible refine then_ret ?_)
          | (with_reducible refine then_exit ?_)
          | (with_reducible refine inBlock_normal ?_)
          | (with_reducible refine inBlock_ret ?_)
          | (with_reducible refine inBlock_hit ?_)
          | (with_reducible refine inBlock_miss (by decide) ?_)
          | (with_reducible refine awp_ret ?_)
          | (with_reducible refine awp_exit ?_)
          | (with_reducible refine post_ret ?_)
          | (with_reducible refine post_normal ?_)
          | (with_reducible refine awp_block ?_)
          | (with_reducible refine v_reg [] (fun K hK => ?_))
          | (with_reducible refine v_reg1 [] (fun K hK => ?_))
          | (with_reducible refine v_draw mixed [] [] (by kernel_rfl) (fun K hK => ?_))
          | (with_reducible refine v_draw1 mixed [] [] (by kernel_rfl) (fun K hK => ?_))
          | (with_reducible refine ev_nil (hK _ _ ?_); clear hK K)
          | (with_reducible refine ed_nil (hK _ _ ?_); clear hK K)
          | ((first | with_reducible refine ev_cons (fun K' hK' => ?_) | with_reducible refine ed_cons (fun K' hK' => ?_) | (with_reducible refine ev_id ?_; refine ev_guard rfl (fun K' hK' => ?_)) | (with_reducible refine ed_id ?_; refine ed_guard rfl (fun K' hK' => ?_))); simp [h51, h50, h49, h11, h13, hlt, hll, hat, hci]; repeat' (first | (with_reducible refine hK' _ _ ?_; clear hK' K') | (with_reducible refine And.intro ?_ ?_) | (with_reducible intro hg) | (clear hK' K'; omega)))
          | (with_reducible refine w_cond (fun A B hA hB => ?_); simp [h51, h50, h49, h11, h13, hlt, hll, hat, hci]; repeat' (first | (with_reducible refine hA ?_; clear hA hB A B) | (with_reducible refine hB ?_; clear hA hB A B) | (with_reducible refine And.intro ?_ ?_) | (with_reducible intro hc)))
          | (with_reducible refine awp_seq ?_))
        exact ⟨⟨i + 1, by omega, by simp, by simp [h50], by simp [h49], by simp [h11], by rw [hfs]; simp [h13], h', by rw [hfs]⟩, by simp; omega⟩
    · have : i = m := by omega
      subst this
      have h13' : upd env 52 (B false) 13 = .ref O 0 ((upto i).filter fun u => !come u).length ((upto i).filter fun u => !come u).length := by simp [h13]
      repeat' (first
        | (with_reducible refine awp_skip ?_)
        | (with_reducible refine then_any ?_)
        | (with_reducible refine then_ret ?_)
        | (with_reducible refine then_exit ?_)
        | (with_reducible refine inBlock_normal ?_)
        | (with_reducible refine inBlock_ret ?_)
        | (with_reducible refine inBlock_hit ?_)
        | (with_reducible refine inBlock_miss (by decide) ?_)
        | (with_reducible refine awp_ret ?_)
        | (with_reducible refine awp_exit ?_)
        | (with_reducible refine post_ret ?_)
        | (with_reducible refine post_normal ?_)
        | (with_reducible refine awp_block ?_)
        | ((fail_if_success (with_reducible refine at_reg 11 ?_)); with_reducible refine v_reg [] (fun K hK => ?_))
        | (with_reducible refine v_reg1 [] (fun K hK => ?_))
        | ((fail_if_success (with_reducible refine at_reg 11 ?_)); with_reducible refine v_draw mixed [] [] (by kernel_rfl) (fun K hK => ?_))
        | (with_reducible refine v_draw1 mixed [] [] (by kernel_rfl) (fun K hK => ?_))
        | (with_reducible refine ev_nil (hK _ _ ?_); clear hK K)
        | (with_reducible refine ed_nil (hK _ _ ?_); clear hK K)
        | ((first | with_reducible refine ev_cons (fun K' hK' => ?_) | with_reducible refine ed_cons (fun K' hK' => ?_) | (with_reducible refine ev_id ?_; refine ev_guard rfl (fun K' hK' => ?_)) | (with_reducible refine ed_id ?_; refine ed_guard rfl (fun K' hK' => ?_))); simp [h51, h50]; repeat' (first | (with_reducible refine hK' _ _ ?_; clear hK' K') | (with_reducible refine And.intro ?_ ?_) | (with_reducible intro hg) | (clear hK' K'; omega)))
        | (with_reducible refine w_cond (fun A B hA hB => ?_); simp [h51, h50]; repeat' (first | (with_reducible refine hA ?_; clear hA hB A B) | (with_reducible refine hB ?_; clear hA hB A B) | (with_reducible refine And.intro ?_ ?_) | (with_reducible intro hc)))
        | ((fail_if_success (with_reducible refine at_reg 11 ?_)); with_reducible refine awp_seq ?_))
      refine awp_freeze 13 (r := O) (off := 0) (len := ((upto i).filter fun u => !come u).length) (top := ((upto i).filter fun u => !come u).length) h13' (upd_same _ _ _) ?_
      rw [cut_map, upd_upd]
      repeat' (first
        | (with_reducible refine awp_skip ?_)
        | (with_reducible refine then_any ?_)
        | (with_reducible refine then_ret ?_)
        | (with_reducible refine then_exit ?_)
        | (with_reducible refine inBlock_normal ?_)
        | (with_reducible refine inBlock_ret ?_)
        | (with_reducible refine inBlock_hit ?_)
        | (with_reducible refine inBlock_miss (by decide) ?_)
        | (with_reducible refine awp_ret ?_)
        | (with_reducible refine awp_exit ?_)
        | (with_reducible refine post_ret ?_)
        | (with_reducible refine post_normal ?_)
        | (with_reducible refine awp_block ?_)
        | (with_reducible refine v_reg [] (fun K hK => ?_))
        | (with_reducible refine v_reg1 [] (fun K hK => ?_))
        | (with_reducible refine v_draw mixed [] [] (by kernel_rfl) (fun K hK => ?_))
        | (with_reducible refine v_draw1 mixed [] [] (by kernel_rfl) (fun K hK => ?_))
        | (with_reducible refine ev_nil (hK _ _ ?_); clear hK K)
        | (with_reducible refine ed_nil (hK _ _ ?_); clear hK K)
        | ((first | with_reducible refine ev_cons (fun K' hK' => ?_) | with_reducible refine ed_cons (fun K' hK' => ?_) | (with_reducible refine ev_id ?_; refine ev_guard rfl (fun K' hK' => ?_)) | (with_reducible refine ed_id ?_; refine ed_guard rfl (fun K' hK' => ?_))); simp [h11]; repeat' (first | (with_reducible refine hK' _ _ ?_; clear hK' K') | (with_reducible refine And.intro ?_ ?_) | (with_reducible intro hg) | (clear hK' K'; omega)))
        | (with_reducible refine w_cond (fun A B hA hB => ?_); simp [h11]; repeat' (first | (with_reducible refine hA ?_; clear hA hB A B) | (with_reducible refine hB ?_; clear hA hB A B) | (with_reducible refine And.intro ?_ ?_) | (with_reducible intro hc)))
        | (with_reducible refine awp_seq ?_))
      simp [hT, hsub, notC]
  · have hf : mayF n arcs root v = false := by simpa using hok
    cases hA : mayA n arcs root
    · repeat' (first
        | (with_reducible refine awp_skip ?_)
        | (with_reducible refine then_any ?_)
        | (with_reducible refine then_ret ?_)
        | (with_reducible refine then_exit ?_)
        | (with_reducible refine inBlock_normal ?_)
        | (with_reducible refine inBlock_ret ?_)
        | (with_reducible refine inBlock_hit ?_)
        | (with_reducible refine inBlock_miss (by decide) ?_)
        | (with_reducible refine awp_ret ?_)
        | (with_reducible refine awp_exit ?_)
        | (with_reducible refine post_ret ?_)
        | (with_reducible refine post_normal ?_)
        | (with_reducible refine awp_block ?_)
        | (with_reducible refine v_reg [] (fun K hK => ?_))
        | (with_reducible refine v_reg1 [] (fun K hK => ?_))
        | (with_reducible refine v_draw mixed [] [] (by kernel_rfl) (fun K hK => ?_))
        | (with_reducible refine v_draw1 mixed [] [] (by kernel_rfl) (fun K hK => ?_))
        | (with_reducible refine ev_nil (hK _ _ ?_); clear hK K)
        | (with_reducible refine ed_nil (hK _ _ ?_); clear hK K)
        | ((first | with_reducible refine ev_cons (fun K' hK' => ?_) | with_reducible refine ed_cons (fun K' hK' => ?_) | (with_reducible refine ev_id ?_; refine ev_guard rfl (fun K' hK' => ?_)) | (with_reducible refine ed_id ?_; refine ed_guard rfl (fun K' hK' => ?_))); simp [hA]; repeat' (first | (with_reducible refine hK' _ _ ?_; clear hK' K') | (with_reducible refine Ret.use hmay ?_; try simp [hA]) | (with_reducible refine And.intro ?_ ?_) | (with_reducible intro hg) | (clear hK' K'; omega)))
        | (with_reducible refine w_cond (fun A B hA hB => ?_); simp [hA]; repeat' (first | (with_reducible refine hA ?_; clear hA hB A B) | (with_reducible refine hB ?_; clear hA hB A B) | (with_reducible refine And.intro ?_ ?_) | (with_reducible intro hc)))
        | (with_reducible refine awp_seq ?_))
      simp [flowT, hf]
    · repeat' (first
        | (with_reducible refine awp_skip ?_)
        | (with_reducible refine then_any ?_)
        | (with_reducible refine then_ret ?_)
        | (with_reducible refine then_exit ?_)
        | (with_reducible refine inBlock_normal ?_)
        | (with_reducible refine inBlock_ret ?_)
        | (with_reducible refine inBlock_hit ?_)
        | (with_reducible refine inBlock_miss (by decide) ?_)
        | (with_reducible refine awp_ret ?_)
        | (with_reducible refine awp_exit ?_)
        | (with_reducible refine post_ret ?_)
        | (with_reducible refine post_normal ?_)
        | (with_reducible refine awp_block ?_)
        | (with_reducible refine v_reg [] (fun K hK => ?_))
        | (with_reducible refine v_reg1 [] (fun K hK => ?_))
        | (with_reducible refine v_draw mixed [] [] (by kernel_rfl) (fun K hK => ?_))
        | (with_reducible refine v_draw1 mixed [] [] (by kernel_rfl) (fun K hK => ?_))
        | (with_reducible refine ev_nil (hK _ _ ?_); clear hK K)
        | (with_reducible refine ed_nil (hK _ _ ?_); clear hK K)
        | ((first | with_reducible refine ev_cons (fun K' hK' => ?_) | with_reducible refine ed_cons (fun K' hK' => ?_) | (with_reducible refine ev_id ?_; refine ev_guard rfl (fun K' hK' => ?_)) | (with_reducible refine ed_id ?_; refine ed_guard rfl (fun K' hK' => ?_))); simp [hA]; repeat' (first | (with_reducible refine hK' _ _ ?_; clear hK' K') | (with_reducible refine Ret.use hmay ?_; try simp [hA]) | (with_reducible refine And.intro ?_ ?_) | (with_reducible intro hg) | (clear hK' K'; omega)))
        | (with_reducible refine w_cond (fun A B hA hB => ?_); simp [hA]; repeat' (first | (with_reducible refine hA ?_; clear hA hB A B) | (with_reducible refine hB ?_; clear hA hB A B) | (with_reducible refine And.intro ?_ ?_) | (with_reducible intro hc)))
        | (with_reducible refine awp_seq ?_))
      all_goals first
        | simp [flowT, hf]
        | (exfalso; simp [mayF, hA] at hf; omega)
end Go.Am
