/- Contracts and plain laws that the law ArcsEnds needs, part 7. -/
import Derived.Test.YtkgcmgbndapjcaaZArcsEnds6
namespace Go.Am
open Go Go.Proofs
set_option linter.unusedVariables false
set_option linter.unusedSimpArgs false
variable {w0 : World}
attribute [local irreducible] AWP ACalls
attribute [local congr] acalls_congr
def mayF (n : Int) (arcs : List (Int × Int)) (root v : Int) : Bool := mayA n arcs root && decide (0 ≤ v) && decide (v < n) && decide (v ≠ root)
noncomputable def flowT (n : Int) (arcs : List (Int × Int)) (root v : Int) : AV :=
  if mayF n arcs root v then .tup [I (flowA arcs n.toNat no0 root v).1, ints (flowA arcs n.toNat no0 root v).2, I 0] else .tup [I 0, ints [], I 1]
theorem mayK_one {n : Int} {arcs : List (Int × Int)} {root : Int} : mayK n arcs root 1 = mayA n arcs root := by simp [mayK]
theorem notC_take {come : Int → Bool} {i : Nat} : (upto (i + 1)).filter (fun u => !come u) = (upto i).filter (fun u => !come u) ++ if come i = true then [] else [(i : Int)] := by
  rw [upto_succ, List.filter_append, List.filter_cons]
  by_cases h : come i = true <;> simp [h]
set_option maxHeartbeats 1000000 in
theorem flow_ret {n root v : Int} {arcs : List (Int × Int)} (ha : smLen arcs) : Ret Try.prog w0 16 [I n, pairs arcs, I root, I v] (flowT n arcs root v) := by
  intro H
  have hmay := arcsMay_ret (w0 := w0) (n := n) (root := root) (k := 1) ha
  rw [mayK_one] at hmay
  refine w_enter Try.func16 rfl Try.ntmps16 (ts := [8, 9, 10]) rfl (by simp) (by kernel_rfl) ?_
  by_cases hok : mayF n arcs root v = true
  · have hok' := hok
    simp only [mayF, Bool.and_eq_true, decide_eq_true_eq] at hok'
    obtain ⟨⟨⟨hA, hv0⟩, hvn⟩, hvr⟩ := hok'
    obtain ⟨m, rfl, hm1, N⟩ := mayA_net hA
    have b1 : ¬ v < 0 := by omega
    have b2 : ¬ (m : Int) ≤ v := by omega
    have hml := N.mle
    have hnl := N.nle
    have hmost := fun (H : Heap) (K : AV → Heap → Prop) (G : Nat) (hG : H G = some (Blk.arr 1 4 (labB arcs.length no0) arcs.length)) k' => most_use (w0 := w0) (K := K) (enough := arcs.length + 1) N hG ⟨hv0, hvn⟩ hvr (by omega) k'
    have ecast : ((arcs.length + 1 : Nat) : Int) = (arcs.length : Int) + 1 := by omega
    simp only [ecast, ← labB_rep] at hmost
    repeat' (first
      | (with_reducible refine awp_skip ?_)
      | (with_reducible refine then_any ?_)
      | (with_reducible refine then_ret ?_)
      | (with_reducible refine then_exit ?_)
      | (with_reducible refine inBlock_normal ?_)
      | (with_reducible refine inBlock_ret ?_)
      | (with_reducible refine inBlock_hit ?_)
      | (with_reducible refine inBlock_miss (by decide) ?_)
      | (with_reducible refine awp_ret ?_)
      | (with_reducible refine awp_exit ?_)
      | (with_reducible refine post_ret ?_)
      | (with_reducible refine post_normal ?_)
      | (with_reducible refine awp_block ?_)
      | (with_reducible refine v_reg [13] (fun K hK => ?_))
      | (with_reducible refine v_reg1 [13] (fun K hK => ?_))
      | (with_reducible refine v_draw mixed [13] [] (by kernel_rfl) (fun K hK => ?_))
      | (with_reducible refine v_draw1 mixed [13] [] (by kernel_rfl) (fun K hK => ?_))
      | (with_reducible refine ev_nil (hK _ _ ?_); clear hK K)
      | (with_reducible refine ed_nil (hK _ _ ?_); clear hK K)
      | ((first | with_reducible refine ev_cons (fun K' hK' => ?_) | with_reducible refine ed_cons (fun K' hK' => ?_) | (with_reducible refine ev_id ?_; refine ev_guard rfl (fun K' hK' => ?_)) | (with_reducible refine ed_id ?_; refine ed_guard rfl (fun K' hK' => ?_))); simp [pairs, hA, b1, b2, hvr]; repeat' (first | (with_reducible refine hK' _ _ ?_; clear hK' K') | (with_reducible refine Ret.use hmay ?_; try simp [pairs, hA, b1, b2, hvr]) | ((with_reducible refine hmost _ _ _ (by simp) (fun units full by' come hf hw hc hu => ?_)); try simp [pairs, hA, b1, b2, hvr]) | (with_reducible refine And.intro ?_ ?_) | (with_reducible intro hg) | (clear hK' K'; omega)))
      | (with_reducible refine w_cond (fun A B hA hB => ?_); simp [pairs, hA, b1, b2, hvr]; repeat' (first | (with_reducible refine hA ?_; clear hA hB A B) | (with_reducible refine hB ?_; clear hA hB A B) | (with_reducible refine And.intro ?_ ?_) | (with_reducible intro hc)))
      | (with_reducible refine awp_seq ?_))
    rename_i G hG O
    obtain ⟨hOG, hO⟩ : O ≠ G ∧ H O = none := by
      have h1 : O ≠ G := by rintro rfl; simp at hg
      exact ⟨h1, by rw [if_neg h1] at hg; exact hg⟩
    clear hg
    have hsub : ∀ {h'}, Sub H (upd (upd H G h') O none) := fun {h'} => ((Sub.refl H).upd hG _).upd hO _
    have hc' : come v = false := by
      rcases hc with h | h
      · exact h
      · obtain ⟨u, s, hF⟩ := N.ans no0 ⟨hv0, hvn⟩ hvr
        have := flow_le hF
        have h2 := N.units_le hf ⟨hv0, hvn⟩ (fun u => decide (u ∈ s)) (by simp [hF.nroot]) (by simp [hF.has])
        rw [hF.is] at h2
        omega
    have hans := (N.most_ans hf hw ⟨hv0, hvn⟩ hc').eq
    have hT : flowT m arcs root v = .tup [I units, ints (notC m come), I 0] := by
      rw [flowT, if_pos hok, show ((m : Int)).toNat = m by omega, hans]
    refine awp_loop (fun env h => ∃ i : Nat, i ≤ m ∧ env 51 = I i ∧ env 50 = I m ∧ env 49 = .sl (labB m come) m ∧ env 11 = I units ∧
        env 13 = .ref O 0 ((upto i).filter fun u => !come u).length ((upto i).filter fun u => !come u).length ∧
        ∃ h', h = upd (upd H G h') O (some (.arr 1 3 (((upto i).filter fun u => !come u).map I) ((upto i).filter fun u => !come u).length))) (fun env _ => m - natA (env 51)) ?_ ?_
    · exact ⟨0, by omega, by simp, by simp, by simp, by simp, by simp [upto_zero], _, by simp only [upto_zero, List.filter_nil, List.map_nil, List.length_nil]; rfl⟩
    rintro env h ⟨i, hi, h51, h50, h49, h11, h13, h', rfl⟩
    have hnat : natA (env 51) = i := by simp [h51]
    rw [hnat]; clear hnat
    by_cases hlt : i < m
    · have hat : ∀ h : i < (labB m come).length, (labB m come)[i]'h = B (come i) := fun h => by
        have := labB_at (n := m) (s := come) (x := (i : Int)) (by omega) (by simpa using h)
        simpa using this
      have hll := labB_length m come
      have hfs := notC_take (come := come) (i := i)
      have hle := List.length_filter_le (fun u => !come u) (upto i)
      rw [upto_length] at hle
      generalize (upto i).filter (fun u => !come u) = o at *
      cases hci : come i
      · rw [hci] at hfs
        simp only [Bool.false_eq_true, if_false] at hfs
        repeat' (first
          | (with_reducible refine awp_skip ?_)
          | (with_reducible refine then_any ?_)
          | (with_reducible refine then_ret ?_)
          | (with_reducible refine then_exit ?_)
          | (with_reducible refine inBlock_normal ?_)
          | (with_reducible refine inBlock_ret ?_)
          | (with_reducible refine inBlock_hit ?_)
          | (with_reducible refine inBlock_miss (by decide) ?_)
          | (with_reducible refine awp_ret ?_)
          | (with_reducible refine awp_exit ?_)
          | (with_reducible refine post_ret ?_)
          | (with_reducible refine post_normal ?_)
          | (with_reducible refine awp_block ?_)
          | (with_reducible refine v_reg [] (fun K hK => ?_))
          | (with_reducible refine v_reg1 [] (fun K hK => ?_))
          | (with_reducible refine v_draw mixed [] [] (by kernel_rfl) (fun K hK => ?_))
          | (with_reducible refine v_draw1 mixed [] [] (by kernel_rfl) (fun K hK => ?_))
          | (with_reducible refine ev_nil (hK _ _ ?_); clear hK K)
          | (with_reducible refine ed_nil (hK _ _ ?_); clear hK K)
          | ((first | with_reducible refine ev_cons (fun K' hK' => ?_) | with_reducible refine ed_cons (fun K' hK' => ?_) | (with_reducible refine ev_id ?_; refine ev_guard rfl (fun K' hK' => ?_)) | (with_reducible refine ed_id ?_; refine ed_guard rfl (fun K' hK' => ?_))); simp [h51, h50, h49, h11, h13, hlt, hll, hat, hci]; repeat' (first | (with_reducible refine hK' _ _ ?_; clear hK' K') | (with_reducible refine And.intro ?_ ?_) | (with_reducible intro hg) | (clear hK' K'; omega)))
          | (with_reducible refine w_cond (fun A B hA hB => ?_); simp [h51, h50, h49, h11, h13, hlt, hll, hat, hci]; repeat' (first | (with_reducible refine hA ?_; clear hA hB A B) | (with_reducible refine hB ?_; clear hA hB A B) | (with_reducible refine And.intro ?_ ?_) | (with_reducible intro hc)))
          | (with_reducible refine awp_seq ?_))
        exact ⟨⟨i + 1, by omega, by simp, by simp [h50], by simp [h49], by simp [h11], by rw [hfs]; simp, h', by rw [hfs]; simp⟩, by simp; omega⟩
      · rw [hci] at hfs
        simp only [if_true, List.append_nil] at hfs
        repeat' (first
          | (with_reducible refine awp_skip ?_)
          | (with_reducible refine then_any ?_)
          | (with_reducible refine then_ret ?_)
          | (with_reducible refine then_exit ?_)
          | (with_reducible refine inBlock_normal ?_)
          | (with_reducible refine inBlock_ret ?_)
          | (with_reducible refine inBlock_hit ?_)
          | (with_reducible refine inBlock_miss (by decide) ?_)
          | (with_reducible refine awp_ret ?_)
          | (with_reducible refine awp_exit ?_)
          | (with_reducible refine post_ret ?_)
          | (with_reducible refine post_normal ?_)
          | (with_reducible refine awp_block ?_)
          | (with_reducible refine v_reg [] (fun K hK => ?_))
          | (with_reducible refine v_reg1 [] (fun K hK => ?_))
          | (with_reducible refine v_draw mixed [] [] (by kernel_rfl) (fun K hK => ?_))
          | (with_reducible refine v_draw1 mixed [] [] (by kernel_rfl) (fun K hK => ?_))
          | (with_reducible refine ev_nil (hK _ _ ?_); clear hK K)
          | (with_reducible refine ed_nil (hK _ _ ?_); clear hK K)
          | ((first | with_reducible refine ev_cons (fun K' hK' => ?_) | with_reducible refine ed_cons (fun K' hK' => ?_) | (with_reducible refine ev_id ?_; refine ev_guard rfl (fun K' hK' => ?_)) | (with_reducible refine ed_id ?_; refine ed_guard rfl (fun K' hK' => ?_))); simp [h51, h50, h49, h11, h13, hlt, hll, hat, hci]; repeat' (first | (with_reducible refine hK' _ _ ?_; clear hK' K') | (with_reducible refine And.intro ?_ ?_) | (with_reducible intro hg) | (clear hK' K'; omega)))
          | (with_reducible refine w_cond (fun A B hA hB => ?_); simp [h51, h50, h49, h11, h13, hlt, hll, hat, hci]; repeat' (first | (with_reducible refine hA ?_; clear hA hB A B) | (with_reducible refine hB ?_; clear hA hB A B) | (with_reducible refine And.intro ?_ ?_) | (with_reducible intro hc)))
          | (with_reducible refine awp_seq ?_))
        exact ⟨⟨i + 1, by omega, by simp, by simp [h50], by simp [h49], by simp [h11], by rw [hfs]; simp [h13], h', by rw [hfs]⟩, by simp; omega⟩
    · have : i = m := by omega
      subst this
      have h13' : upd env 52 (B false) 13 = .ref O 0 ((upto i).filter fun u => !come u).length ((upto i).filter fun u => !come u).length := by simp [h13]
      repeat' (first
        | (with_reducible refine awp_skip ?_)
        | (with_reducible refine then_any ?_)
        | (with_reducible refine then_ret ?_)
        | (with_reducible refine then_exit ?_)
        | (with_reducible refine inBlock_normal ?_)
        | (with_reducible refine inBlock_ret ?_)
        | (with_reducible refine inBlock_hit ?_)
        | (with_reducible refine inBlock_miss (by decide) ?_)
        | (with_reducible refine awp_ret ?_)
        | (with_reducible refine awp_exit ?_)
        | (with_reducible refine post_ret ?_)
        | (with_reducible refine post_normal ?_)
        | (with_reducible refine awp_block ?_)
        | ((fail_if_success (with_reducible refine at_reg 11 ?_)); with_reducible refine v_reg [] (fun K hK => ?_))
        | (with_reducible refine v_reg1 [] (fun K hK => ?_))
        | ((fail_if_success (with_reducible refine at_reg 11 ?_)); with_reducible refine v_draw mixed [] [] (by kernel_rfl) (fun K hK => ?_))
        | (with_reducible refine v_draw1 mixed [] [] (by kernel_rfl) (fun K hK => ?_))
        | (with_reducible refine ev_nil (hK _ _ ?_); clear hK K)
        | (with_reducible refine ed_nil (hK _ _ ?_); clear hK K)
        | ((first | with_reducible refine ev_cons (fun K' hK' => ?_) | with_reducible refine ed_cons (fun K' hK' => ?_) | (with_reducible refine ev_id ?_; refine ev_guard rfl (fun K' hK' => ?_)) | (with_reducible refine ed_id ?_; refine ed_guard rfl (fun K' hK' => ?_))); simp [h51, h50]; repeat' (first | (with_reducible refine hK' _ _ ?_; clear hK' K') | (with_reducible refine And.intro ?_ ?_) | (with_reducible intro hg) | (clear hK' K'; omega)))
        | (with_reducible refine w_cond (fun A B hA hB => ?_); simp [h51, h50]; repeat' (first | (with_reducible refine hA ?_; clear hA hB A B) | (with_reducible refine hB ?_; clear hA hB A B) | (with_reducible refine And.intro ?_ ?_) | (with_reducible intro hc)))
        | ((fail_if_success (with_reducible refine at_reg 11 ?_)); with_reducible refine awp_seq ?_))
      refine awp_freeze 13 (r := O) (off := 0) (len := ((upto i).filter fun u => !come u).length) (top := ((upto i).filter fun u => !come u).length) h13' (upd_same _ _ _) ?_
      rw [cut_map, upd_upd]
      repeat' (first
        | (with_reducible refine awp_skip ?_)
        | (with_reducible refine then_any ?_)
        | (with_reducible refine then_ret ?_)
        | (with_reducible refine then_exit ?_)
        | (with_reducible refine inBlock_normal ?_)
        | (with_reducible refine inBlock_ret ?_)
        | (with_reducible refine inBlock_hit ?_)
        | (with_reducible refine inBlock_miss (by decide) ?_)
        | (with_reducible refine awp_ret ?_)
        | (with_reducible refine awp_exit ?_)
        | (with_reducible refine post_ret ?_)
        | (with_reducible refine post_normal ?_)
        | (with_reducible refine awp_block ?_)
        | (with_reducible refine v_reg [] (fun K hK => ?_))
        | (with_reducible refine v_reg1 [] (fun K hK => ?_))
        | (with_reducible refine v_draw mixed [] [] (by kernel_rfl) (fun K hK => ?_))
        | (with_reducible refine v_draw1 mixed [] [] (by kernel_rfl) (fun K hK => ?_))
        | (with_reducible refine ev_nil (hK _ _ ?_); clear hK K)
        | (with_reducible refine ed_nil (hK _ _ ?_); clear hK K)
        | ((first | with_reducible refine ev_cons (fun K' hK' => ?_) | with_reducible refine ed_cons (fun K' hK' => ?_) | (with_reducible refine ev_id ?_; refine ev_guard rfl (fun K' hK' => ?_)) | (with_reducible refine ed_id ?_; refine ed_guard rfl (fun K' hK' => ?_))); simp [h11]; repeat' (first | (with_reducible refine hK' _ _ ?_; clear hK' K') | (with_reducible refine And.intro ?_ ?_) | (with_reducible intro hg) | (clear hK' K'; omega)))
        | (with_reducible refine w_cond (fun A B hA hB => ?_); simp [h11]; repeat' (first | (with_reducible refine hA ?_; clear hA hB A B) | (with_reducible refine hB ?_; clear hA hB A B) | (with_reducible refine And.intro ?_ ?_) | (with_reducible intro hc)))
        | (with_reducible refine awp_seq ?_))
      simp [hT, hsub, notC]
  · have hf : mayF n arcs root v = false := by simpa using hok
    cases hA : mayA n arcs root
    · repeat' (first
        | (with_reducible refine awp_skip ?_)
        | (with_reducible refine then_any ?_)
        | (with_reducible refine then_ret ?_)
        | (with_reducible refine then_exit ?_)
        | (with_reducible refine inBlock_normal ?_)
        | (with_reducible refine inBlock_ret ?_)
        | (with_reducible refine inBlock_hit ?_)
        | (with_reducible refine inBlock_miss (by decide) ?_)
        | (with_reducible refine awp_ret ?_)
        | (with_reducible refine awp_exit ?_)
        | (with_reducible refine post_ret ?_)
        | (with_reducible refine post_normal ?_)
        | (with_reducible refine awp_block ?_)
        | (with_reducible refine v_reg [] (fun K hK => ?_))
        | (with_reducible refine v_reg1 [] (fun K hK => ?_))
        | (with_reducible refine v_draw mixed [] [] (by kernel_rfl) (fun K hK => ?_))
        | (with_reducible refine v_draw1 mixed [] [] (by kernel_rfl) (fun K hK => ?_))
        | (with_reducible refine ev_nil (hK _ _ ?_); clear hK K)
        | (with_reducible refine ed_nil (hK _ _ ?_); clear hK K)
        | ((first | with_reducible refine ev_cons (fun K' hK' => ?_) | with_reducible refine ed_cons (fun K' hK' => ?_) | (with_reducible refine ev_id ?_; refine ev_guard rfl (fun K' hK' => ?_)) | (with_reducible refine ed_id ?_; refine ed_guard rfl (fun K' hK' => ?_))); simp [hA]; repeat' (first | (with_reducible refine hK' _ _ ?_; clear hK' K') | (with_reducible refine Ret.use hmay ?_; try simp [hA]) | (with_reducible refine And.intro ?_ ?_) | (with_reducible intro hg) | (clear hK' K'; omega)))
        | (with_reducible refine w_cond (fun A B hA hB => ?_); simp [hA]; repeat' (first | (with_reducible refine hA ?_; clear hA hB A B) | (with_reducible refine hB ?_; clear hA hB A B) | (with_reducible refine And.intro ?_ ?_) | (with_reducible intro hc)))
        | (with_reducible refine awp_seq ?_))
      simp [flowT, hf]
    · repeat' (first
        | (with_reducible refine awp_skip ?_)
        | (with_reducible refine then_any ?_)
        | (with_reducible refine then_ret ?_)
        | (with_reducible refine then_exit ?_)
        | (with_reducible refine inBlock_normal ?_)
        | (with_reducible refine inBlock_ret ?_)
        | (with_reducible refine inBlock_hit ?_)
        | (with_reducible refine inBlock_miss (by decide) ?_)
        | (with_reducible refine awp_ret ?_)
        | (with_reducible refine awp_exit ?_)
        | (with_reducible refine post_ret ?_)
        | (with_reducible refine post_normal ?_)
        | (with_reducible refine awp_block ?_)
        | (with_reducible refine v_reg [] (fun K hK => ?_))
        | (with_reducible refine v_reg1 [] (fun K hK => ?_))
        | (with_reducible refine v_draw mixed [] [] (by kernel_rfl) (fun K hK => ?_))
        | (with_reducible refine v_draw1 mixed [] [] (by kernel_rfl) (fun K hK => ?_))
        | (with_reducible refine ev_nil (hK _ _ ?_); clear hK K)
        | (with_reducible refine ed_nil (hK _ _ ?_); clear hK K)
        | ((first | with_reducible refine ev_cons (fun K' hK' => ?_) | with_reducible refine ed_cons (fun K' hK' => ?_) | (with_reducible refine ev_id ?_; refine ev_guard rfl (fun K' hK' => ?_)) | (with_reducible refine ed_id ?_; refine ed_guard rfl (fun K' hK' => ?_))); simp [hA]; repeat' (first | (with_reducible refine hK' _ _ ?_; clear hK' K') | (with_reducible refine Ret.use hmay ?_; try simp [hA]) | (with_reducible refine And.intro ?_ ?_) | (with_reducible intro hg) | (clear hK' K'; omega)))
        | (with_reducible refine w_cond (fun A B hA hB => ?_); simp [hA]; repeat' (first | (with_reducible refine hA ?_; clear hA hB A B) | (with_reducible refine hB ?_; clear hA hB A B) | (with_reducible refine And.intro ?_ ?_) | (with_reducible intro hc)))
        | (with_reducible refine awp_seq ?_))
      all_goals first
        | simp [flowT, hf]
        | (exfalso; simp [mayF, hA] at hf; omega)
end Go.Am
namespace Go.Am
open Go Go.Proofs
set_option linter.unusedVariables false
set_option linter.unusedSimpArgs false
variable {w0 : World}
attribute [local irreducible] AWP ACalls
attribute [local congr] acalls_congr
theorem exists_mask' (p : Nat → Bool) : ∀ n : Nat, ∃ s, s < 2 ^ n ∧ ∀ j, j < n → s.testBit j = p j := by
  intro n
  induction n with
  | zero => exact ⟨0, by simp, fun j h => by omega⟩
  | succ n ih =>
    obtain ⟨s, hs, h⟩ := ih
    have h2 : 2 ^ (n + 1) = 2 ^ n + 2 ^ n := by rw [Nat.pow_succ]; omega
    cases hp : p n with
    | false =>
      refine ⟨s, by omega, fun j hj => ?_⟩
      by_cases e : j = n
      · subst e; rw [hp]; exact Nat.testBit_lt_two_pow hs
      · exact h j (by omega)
    | true =>
      refine ⟨2 ^ n + s, by omega, fun j hj => ?_⟩
      by_cases e : j = n
      · subst e; rw [hp, Nat.testBit_two_pow_add_eq, Nat.testBit_lt_two_pow hs]; rfl
      · rw [Nat.testBit_two_pow_add_gt (by omega)]; exact h j (by omega)
def subL (n bits : Nat) : List Int := (upto n).filter fun j => bits.testBit j.toNat
theorem mem_subL {n bits : Nat} {x : Int} : x ∈ subL n bits ↔ (0 ≤ x ∧ x < n) ∧ bits.testBit x.toNat = true := by simp [subL, List.mem_filter, mem_upto]
theorem subL_pts {n : Nat} (h : n ≤ 4096) (bits : Nat) : Pts n (subL n bits) := ⟨(isSet_upto (by omega)).filter _, fun x hx => (mem_subL.1 hx).1⟩
theorem subL_of {n : Nat} {s : List Int} (h : s.Pairwise (· < ·)) (hr : ∀ x ∈ s, 0 ≤ x ∧ x < n) : ∃ b, b < 2 ^ n ∧ subL n b = s := by
  obtain ⟨b, hb, hj⟩ := exists_mask' (fun j => decide ((j : Int) ∈ s)) n
  refine ⟨b, hb, up_ext ((up_upto n).filter _) h fun x => ?_⟩
  rw [mem_subL]
  constructor
  · intro ⟨⟨h0, h1⟩, h2⟩
    rw [hj _ (by omega)] at h2
    simp only [decide_eq_true_eq] at h2
    rwa [show ((x.toNat : Nat) : Int) = x by omega] at h2
  · intro hx
    obtain ⟨h0, h1⟩ := hr x hx
    refine ⟨⟨h0, h1⟩, ?_⟩
    rw [hj _ (by omega)]
    simpa [show ((x.toNat : Nat) : Int) = x by omega] using hx
end Go.Am
namespace Go.Am
open Go Go.Proofs
set_option linter.unusedVariables false
set_option linter.unusedSimpArgs false
variable {w0 : World}
attribute [local irreducible] AWP ACalls
attribute [local congr] acalls_congr
def okM (b : Nat) (root v : Int) : Bool := b.testBit v.toNat && !b.testBit root.toNat
structure LeastI (arcs : List (Int × Int)) (n : Nat) (root v : Int) (units : Nat) (s : List Int) (b best : Nat) (out : List Int) : Prop where
  pts : Pts n out
  le : best ≤ arcs.length + 1
  st : (best = units ∧ (∀ x ∈ out, x ∈ s) ∧ ∀ b', b' < b → okM b' root v = true → (entA arcs no0 (subL n b')).length = units → ∀ x ∈ subL n b', x ∈ out) ∨
    units < best ∧ ∀ b', b' < b → okM b' root v = true → (entA arcs no0 (subL n b')).length ≠ units
section
variable {arcs : List (Int × Int)} {n : Nat} {root v : Int} {units b best : Nat} {s out : List Int}
theorem LeastI.start (h : FlowAns arcs n no0 root v units s) : LeastI arcs n root v units s 0 (arcs.length + 1) [] :=
  ⟨.nil, Nat.le_refl _, .inr ⟨by have := flow_le h; omega, fun b' hb => by omega⟩⟩
theorem okM_facts (N : NetA n arcs root) (hv : 0 ≤ v ∧ v < n) (ho : okM b root v = true) : (fun u => decide (u ∈ subL n b)) root = false ∧ (fun u => decide (u ∈ subL n b)) v = true := by
  simp only [okM, Bool.and_eq_true, Bool.not_eq_true'] at ho
  constructor
  · have : root ∉ subL n b := fun h => by have := (mem_subL.1 h).2; rw [ho.2] at this; cases this
    simpa using this
  · have : v ∈ subL n b := mem_subL.2 ⟨hv, ho.1⟩
    simpa using this
theorem ok_sub (N : NetA n arcs root) (hv : 0 ≤ v ∧ v < n) (h : FlowAns arcs n no0 root v units s) (ho : okM b root v = true) (he : (entA arcs no0 (subL n b)).length = units) : ∀ x ∈ subL n b, x ∈ s := by
  obtain ⟨h1, h2⟩ := okM_facts N hv ho
  rw [entA_len] at he
  intro x hx
  obtain ⟨a, c⟩ := (mem_subL.1 hx).1
  exact h.all _ h1 h2 he x a c (by simpa using hx)
theorem LeastI.skip (h : LeastI arcs n root v units s b best out) (ho : okM b root v = false) : LeastI arcs n root v units s (b + 1) best out := by
  refine ⟨h.pts, h.le, ?_⟩
  have key : ∀ b', b' < b + 1 → okM b' root v = true → b' < b := fun b' h1 h2 => by
    by_cases e : b' = b
    · subst e; rw [ho] at h2; cases h2
    · omega
  rcases h.st with ⟨a, c, d⟩ | ⟨a, c⟩
  · exact .inl ⟨a, c, fun b' h1 h2 => d b' (key b' h1 h2) h2⟩
  · exact .inr ⟨a, fun b' h1 h2 => c b' (key b' h1 h2) h2⟩
theorem LeastI.same (N : NetA n arcs root) (hv : 0 ≤ v ∧ v < n) (hF : FlowAns arcs n no0 root v units s) (h : LeastI arcs n root v units s b best out) (ho : okM b root v = true) (hk : (entA arcs no0 (subL n b)).length = best) :
    LeastI arcs n root v units s (b + 1) best (unionR out (subL n b)) := by
  have hp := subL_pts (n := n) (by have := N.nle; omega) b
  have hm := (unionR_spec h.pts.set hp.set).2
  refine ⟨h.pts.union hp, h.le, ?_⟩
  rcases h.st with ⟨a, c, d⟩ | ⟨a, c⟩
  · refine .inl ⟨a, fun x hx => ?_, fun b' h1 h2 h3 x hx => ?_⟩
    · rcases (hm x).1 hx with hx | hx
      · exact c x hx
      · exact ok_sub N hv hF ho (by omega) x hx
    · rw [hm]
      by_cases e' : b' = b
      · subst e'; exact .inr hx
      · exact .inl (d b' (by omega) h2 h3 x hx)
  · refine .inr ⟨a, fun b' h1 h2 h3 => ?_⟩
    by_cases e' : b' = b
    · subst e'; omega
    · exact c b' (by omega) h2 h3
theorem LeastI.fin (N : NetA n arcs root) (hv : 0 ≤ v ∧ v < n) (hF : FlowAns arcs n no0 root v units s) (h : LeastI arcs n root v units s (2 ^ n) best out) : best = units ∧ out = s := by
  obtain ⟨b, hb, hs⟩ := subL_of hF.up hF.rng
  have ho : okM b root v = true := by
    have h1 := hF.has
    have h2 := hF.nroot
    rw [← hs, mem_subL] at h1 h2
    simp only [okM, Bool.and_eq_true, Bool.not_eq_true']
    refine ⟨h1.2, ?_⟩
    cases e : b.testBit root.toNat
    · rfl
    · exact absurd ⟨N.root, e⟩ h2
  have he : (entA arcs no0 (subL n b)).length = units := by rw [entA_len, hs]; exact hF.is
  rcases h.st with ⟨a, c, d⟩ | ⟨a, c⟩
  · refine ⟨a, up_ext h.pts.set.up hF.up fun x => ⟨c x, fun hx => ?_⟩⟩
    exact d b hb ho he x (by rw [hs]; exact hx)
  · exact absurd he (c b hb ho)
end
end Go.Am
namespace Go.Am
open Go Go.Proofs
set_option linter.unusedVariables false
set_option linter.unusedSimpArgs false
variable {w0 : World}
attribute [local irreducible] AWP ACalls
attribute [local congr] acalls_congr
def leftL (arcs : List (Int × Int)) (gone : List Int) (k : Nat) : List (Int × Int) := ((upto k).filter fun i => !decide (i ∈ gone)).map fun i => (tlA arcs i, hdA arcs i)
theorem entP_pairs (l : List (Int × Int)) (T : Int → Bool) : entP l no0 T = l.countP fun a => T a.2 && !T a.1 := by
  have : l = (upto l.length).map fun i => (tlA l i, hdA l i) := by
    refine List.ext_getElem (by simp) fun i h1 h2 => ?_
    rw [List.getElem_map, upto_get, ← tlA_get h1, ← hdA_get h1]
  conv => rhs; rw [this]
  rw [List.countP_map, entP]
  rfl
theorem leftL_len (arcs : List (Int × Int)) (gone : List Int) (k : Nat) : (leftL arcs gone k).length ≤ k := by
  have := List.length_filter_le (fun i => !decide (i ∈ gone)) (upto k)
  rw [upto_length] at this
  simpa [leftL] using this
theorem NetA.left {n : Nat} {arcs : List (Int × Int)} {root : Int} (N : NetA n arcs root) (gone : List Int) : NetA n (leftL arcs gone arcs.length) root where
  nle := N.nle
  mle := Nat.le_trans (leftL_len _ _ _) N.mle
  root := N.root
  ends i h0 h1 := by
    have hi : i.toNat < (leftL arcs gone arcs.length).length := by omega
    have hm := List.getElem_mem hi
    have e1 : tlA (leftL arcs gone arcs.length) i = (leftL arcs gone arcs.length)[i.toNat].1 := by simp [tlA, hi]
    have e2 : hdA (leftL arcs gone arcs.length) i = (leftL arcs gone arcs.length)[i.toNat].2 := by simp [hdA, hi]
    rw [e1, e2]
    obtain ⟨j, hj, he⟩ := List.mem_map.1 hm
    rw [← he]
    obtain ⟨a, b⟩ := mem_upto.1 (List.mem_filter.1 hj).1
    exact N.ends j a b
end Go.Am
namespace Go.Am
set_option linter.unusedVariables false
set_option linter.unusedSimpArgs false
structure GSt where
  gone : Int → Bool
  has : Int → Bool
  out : List Int
section
variable (arcs : List (Int × Int)) (n : Nat) (root : Int) (others : Nat)
noncomputable def okG (s : GSt) (i : Int) : Bool := !s.gone i && s.has (tlA arcs i) && !s.has (hdA arcs i) && enoughB arcs n (setF s.gone i true) root others
def takeG (s : GSt) (i : Int) : GSt := ⟨setF s.gone i true, setF s.has (hdA arcs i) true, s.out ++ [i]⟩
noncomputable def stepG (s : GSt) : GSt := match (upto arcs.length).find? (okG arcs n root others s) with
  | some i => takeG arcs s i
  | none => s
def startG (gone : Int → Bool) : GSt := ⟨gone, setF (fun _ => false) root true, []⟩
noncomputable def iterG (gone : Int → Bool) : Nat → GSt
  | 0 => startG root gone
  | k + 1 => stepG arcs n root others (iterG gone k)
noncomputable def finG (gone : Int → Bool) : GSt := iterG arcs n root others gone (n - 1)
noncomputable def growL (gone : Int → Bool) : List Int := (upto arcs.length).filter fun i => decide (i ∈ (finG arcs n root others gone).out)
variable {arcs n root others}
theorem stepG_some {s : GSt} {i : Nat} (h : i < arcs.length) (hno : ∀ j : Int, 0 ≤ j → j < i → okG arcs n root others s j = false) (hi : okG arcs n root others s i = true) : stepG arcs n root others s = takeG arcs s i := by
  have : (upto arcs.length).find? (okG arcs n root others s) = some (i : Int) := by
    rw [List.find?_eq_some_iff_getElem]
    exact ⟨hi, i, by simpa using h, by rw [upto_get], fun j hj => by rw [upto_get]; simp [hno j (by omega) (by omega)]⟩
  rw [stepG, this]
theorem stepG_none {s : GSt} (hno : ∀ j : Int, 0 ≤ j → j < arcs.length → okG arcs n root others s j = false) : stepG arcs n root others s = s := by
  have : (upto arcs.length).find? (okG arcs n root others s) = none := by
    rw [List.find?_eq_none]
    intro x hx
    obtain ⟨a, b⟩ := mem_upto.1 hx
    simp [hno x a b]
  rw [stepG, this]
theorem stepG_cases (s : GSt) : (stepG arcs n root others s = s ∧ ∀ j : Int, 0 ≤ j → j < arcs.length → okG arcs n root others s j = false) ∨
    ∃ i : Int, 0 ≤ i ∧ i < arcs.length ∧ okG arcs n root others s i = true ∧ stepG arcs n root others s = takeG arcs s i := by
  unfold stepG
  cases h : (upto arcs.length).find? (okG arcs n root others s) with
  | none =>
    rw [List.find?_eq_none] at h
    exact .inl ⟨rfl, fun j a b => by simpa using h j (mem_upto.2 ⟨a, b⟩)⟩
  | some i =>
    have h1 := List.find?_some h
    have h2 := mem_upto.1 (List.mem_of_find?_eq_some h)
    exact .inr ⟨i, h2.1, h2.2, h1, rfl⟩
theorem iterG_stop {gone : Int → Bool} {k : Nat} (h : stepG arcs n root others (iterG arcs n root others gone k) = iterG arcs n root others gone k) (j : Nat) (hj : k ≤ j) : iterG arcs n root others gone j = iterG arcs n root others gone k := by
  induction j with
  | zero => have : k = 0 := by omega
            subst this; rfl
  | succ j ih =>
    by_cases e : k = j + 1
    · subst e; rfl
    · rw [iterG, ih (by omega), h]
structure GInv (arcs : List (Int × Int)) (n : Nat) (root : Int) (gone : Int → Bool) (s : GSt) : Prop where
  rng : ∀ i ∈ s.out, 0 ≤ i ∧ i < arcs.length
  nodup : s.out.Nodup
  fresh : ∀ i ∈ s.out, gone i = false
  gone' : ∀ i, s.gone i = (gone i || decide (i ∈ s.out))
  root' : s.has root = true
  has' : ∀ u, s.has u = true → 0 ≤ u ∧ u < n
  cnt : (upto n).countP s.has = s.out.length + 1
  /-- One comes to all that one has, by arcs taken. -/
  reach : ∀ (p : Int → Prop), p root → (∀ i ∈ s.out, p (tlA arcs i) → p (hdA arcs i)) → ∀ u, s.has u = true → p u
  ends : ∀ i ∈ s.out, s.has (tlA arcs i) = true ∧ s.has (hdA arcs i) = true
  heads : (s.out.map (hdA arcs)).Nodup ∧ ∀ i ∈ s.out, hdA arcs i ≠ root
theorem countP_setF {n : Nat} {f : Int → Bool} {x : Int} (h0 : 0 ≤ x) (h1 : x < n) (hf : f x = false) : (upto n).countP (setF f x true) = (upto n).countP f + 1 := by
  have hx : x ∈ upto n := mem_upto.2 ⟨h0, h1⟩
  have hn := nodup_upto n
  generalize upto n = l at hx hn
  induction l with
  | nil => cases hx
  | cons a l ih =>
    obtain ⟨n1, n2⟩ := List.nodup_cons.1 hn
    rw [List.countP_cons, List.countP_cons]
    by_cases e : a = x
    · subst e
      have : l.countP (setF f a true) = l.countP f := List.countP_congr fun y hy => by rw [setF_ne _ _ (fun e => by subst e; exact n1 hy)]
      rw [this, setF_same, hf]
      simp
    · rw [setF_ne _ _ e, ih (by rcases List.mem_cons.1 hx with h | h; (· exact absurd h.symm e); (· exact h)) n2]
      omega
theorem GInv.start (N : NetA n arcs root) (gone : Int → Bool) : GInv arcs n root gone (startG root gone) where
  rng i hi := by cases hi
  nodup := .nil
  fresh i hi := by cases hi
  gone' i := by simp [startG]
  root' := setF_same (fun _ => false) root true
  has' u hu := by
    by_cases e : u = root
    · subst e; exact N.root
    · simp only [startG] at hu; rw [setF_ne _ _ e] at hu; cases hu
  cnt := by
    show (upto n).countP (setF (fun _ => false) root true) = 0 + 1
    rw [countP_setF N.root.1 N.root.2 rfl]
    simp
  reach p h0 _ u hu := by
    by_cases e : u = root
    · subst e; exact h0
    · simp only [startG] at hu; rw [setF_ne _ _ e] at hu; cases hu
  ends i hi := by cases hi
  heads := ⟨by simp [startG], fun i hi => by cases hi⟩
theorem GInv.take (N : NetA n arcs root) {gone : Int → Bool} {s : GSt} (h : GInv arcs n root gone s) {i : Int} (h0 : 0 ≤ i) (h1 : i < arcs.length) (hg : s.gone i = false) (ht : s.has (tlA arcs i) = true) (hh : s.has (hdA arcs i) = false) :
    GInv arcs n root gone (takeG arcs s i) := by
  have hgi := h.gone' i
  rw [hg] at hgi
  have hgi1 : gone i = false := by cases e : gone i; (· rfl); (· rw [e] at hgi; simp at hgi)
  have hgi2 : i ∉ s.out := fun hx => by simp [hx] at hgi
  obtain ⟨e1, e2⟩ := N.ends i h0 h1
  have hne : ∀ {u}, s.has u = true → u ≠ hdA arcs i := fun hu e => by rw [e, hh] at hu; cases hu
  have hup : ∀ {u}, s.has u = true → setF s.has (hdA arcs i) true u = true := fun hu => by rw [setF_ne _ _ (hne hu)]; exact hu
  refine ⟨fun j hj => ?_, ?_, fun j hj => ?_, fun j => ?_, hup h.root', fun u hu => ?_, ?_, fun p p0 ps u hu => ?_, fun j hj => ?_, ?_, fun j hj => ?_⟩
  · rcases List.mem_append.1 hj with hj | hj
    · exact h.rng j hj
    · simp at hj; subst hj; exact ⟨h0, h1⟩
  · simp only [takeG, List.nodup_append]
    exact ⟨h.nodup, by simp, fun a ha b hb e => by simp at hb; subst hb; subst e; exact hgi2 ha⟩
  · rcases List.mem_append.1 hj with hj | hj
    · exact h.fresh j hj
    · simp at hj; subst hj; exact hgi1
  · simp only [takeG, List.mem_append, List.mem_singleton]
    by_cases e : j = i
    · subst e; simp [setF_same]
    · rw [setF_ne _ _ e, h.gone' j]; simp [e]
  · by_cases e : u = hdA arcs i
    · rw [e]; exact e2
    · simp only [takeG] at hu; rw [setF_ne _ _ e] at hu; exact h.has' u hu
  · simp only [takeG, List.length_append, List.length_singleton]
    rw [countP_setF e2.1 e2.2 hh, h.cnt]
  · have hold := h.reach p p0 fun j hj => ps j (List.mem_append.2 (.inl hj))
    by_cases e : u = hdA arcs i
    · rw [e]; exact ps i (by simp [takeG]) (hold _ ht)
    · simp only [takeG] at hu; rw [setF_ne _ _ e] at hu; exact hold u hu
  · rcases List.mem_append.1 hj with hj | hj
    · exact ⟨hup (h.ends j hj).1, hup (h.ends j hj).2⟩
    · simp at hj; subst hj; exact ⟨hup ht, setF_same _ _ _⟩
  · simp only [takeG, List.map_append, List.map_cons, List.map_nil, List.nodup_append]
    refine ⟨h.heads.1, by simp, fun a ha b hb e => ?_⟩
    simp at hb
    obtain ⟨j, hj, rfl⟩ := List.mem_map.1 ha
    exact hne (h.ends j hj).2 (e.trans hb)
  · rcases List.mem_append.1 hj with hj | hj
    · exact h.heads.2 j hj
    · simp at hj; subst hj; exact fun e => (hne h.root') e.symm
theorem okG_iff {s : GSt} {i : Int} : okG arcs n root others s i = true ↔ s.gone i = false ∧ s.has (tlA arcs i) = true ∧ s.has (hdA arcs i) = false ∧ EnoughP arcs n (setF s.gone i true) root others := by
  simp only [okG, Bool.and_eq_true, Bool.not_eq_true', enoughB_true, and_assoc]
theorem GInv.iter (N : NetA n arcs root) (gone : Int → Bool) (k : Nat) : GInv arcs n root gone (iterG arcs n root others gone k) := by
  induction k with
  | zero => exact .start N gone
  | succ k ih =>
    rw [iterG]
    rcases stepG_cases (arcs := arcs) (n := n) (root := root) (others := others) (iterG arcs n root others gone k) with ⟨e, _⟩ | ⟨i, a, b, c, e⟩
    · rw [e]; exact ih
    · rw [e]
      obtain ⟨c1, c2, c3, _⟩ := okG_iff.1 c
      exact ih.take N a b c1 c2 c3
theorem GInv.fin (N : NetA n arcs root) (gone : Int → Bool) : GInv arcs n root gone (finG arcs n root others gone) := .iter N gone _
theorem GInv.len_lt {gone : Int → Bool} {s : GSt} (h : GInv arcs n root gone s) : s.out.length < n := by
  have := List.countP_le_length (p := s.has) (l := upto n)
  rw [upto_length, h.cnt] at this
  omega
end
noncomputable def packI (arcs : List (Int × Int)) (n : Nat) (root : Int) (k : Nat) : Nat → (Int → Bool) × List (List Int)
  | 0 => (no0, [])
  | i + 1 => ((finG arcs n root (k - 1 - i) (packI arcs n root k i).1).gone, (packI arcs n root k i).2 ++ [growL arcs n root (k - 1 - i) (packI arcs n root k i).1])
end Go.Am
