/- Contracts: Pack (arcs). -/
import Derived.Test.YtkgcmgbndapjcaaW58
import Derived.Test.YtkgcmgbndapjcaaW55
namespace Go.Am
open Go Go.Proofs
set_option linter.unusedVariables false
set_option linter.unusedSimpArgs false
variable {w0 : World}
attribute [local irreducible] AWP ACalls
attribute [local congr] acalls_congr

/-- The first vertex to which too few units come. -/
noncomputable def badV (arcs : List (Int × Int)) (n : Nat) (root : Int) (k : Nat) : Option Int := (upto n).find? fun v => decide (v ≠ root) && decide ((flowA arcs n no0 root v).1 < k)
noncomputable def packT (n : Int) (arcs : List (Int × Int)) (root k : Int) : AV :=
  if mayK n arcs root k then
    match badV arcs n.toNat root k.toNat with
    | some v => .tup [rows [], ints (flowA arcs n.toNat no0 root v).2, I 200]
    | none => .tup [rows (packI arcs n.toNat root k.toNat k.toNat).2, ints [], I 0]
  else .tup [rows [], ints [], I 1]

theorem badV_some {arcs : List (Int × Int)} {n : Nat} {root : Int} {k v : Nat} (h : v < n) (hno : ∀ u : Int, 0 ≤ u → u < v → u ≠ root → k ≤ (flowA arcs n no0 root u).1) (hr : (v : Int) ≠ root) (hv : (flowA arcs n no0 root v).1 < k) : badV arcs n root k = some (v : Int) := by
  rw [badV, List.find?_eq_some_iff_getElem]
  refine ⟨by simp [hr, hv], v, by simpa using h, by rw [upto_get], fun j hj => ?_⟩
  rw [upto_get]
  by_cases e : (j : Int) = root
  · simp [e]
  · have := hno j (by omega) (by omega) e
    simp [e]; omega
theorem badV_none {arcs : List (Int × Int)} {n : Nat} {root : Int} {k : Nat} (hno : ∀ u : Int, 0 ≤ u → u < n → u ≠ root → k ≤ (flowA arcs n no0 root u).1) : badV arcs n root k = none := by
  rw [badV, List.find?_eq_none]
  intro x hx
  obtain ⟨a, b⟩ := mem_upto.1 hx
  by_cases e : x = root
  · simp [e]
  · have := hno x a b e
    simp [e]; omega
theorem flowT_root {n root : Int} {arcs : List (Int × Int)} : flowT n arcs root root = .tup [I 0, ints [], I 1] := by simp [flowT, mayF]
theorem flowT_ok {n : Nat} {root v : Int} {arcs : List (Int × Int)} (hA : mayA n arcs root = true) (h0 : 0 ≤ v) (h1 : v < n) (hr : v ≠ root) :
    flowT n arcs root v = .tup [I (flowA arcs n no0 root v).1, ints (flowA arcs n no0 root v).2, I 0] := by
  have : mayF n arcs root v = true := by simp [mayF, hA, h0, h1, hr]
  simp [flowT, this]
theorem packI_length (arcs : List (Int × Int)) (n : Nat) (root : Int) (k i : Nat) : (packI arcs n root k i).2.length = i := by
  induction i with
  | zero => rfl
  | succ i ih => simp [packI, ih]

set_option maxHeartbeats 4000000 in
theorem pack_ret {n root k : Int} {arcs : List (Int × Int)} (ha : smLen arcs) : Ret Try.prog w0 14 [I n, pairs arcs, I root, I k] (packT n arcs root k) := by
  intro H
  have hmay := arcsMay_ret (w0 := w0) (n := n) (root := root) (k := k) ha
  refine w_enter Try.func14 rfl Try.ntmps14 (ts := [8, 9, 10]) rfl (by simp) (by kernel_rfl) ?_
  cases hK : mayK n arcs root k with
  | false =>
    repeat' (first
      | (with_reducible refine awp_skip ?_)
      | (with_reducible refine then_any ?_)
      | (with_reducible refine then_ret ?_)
      | (with_reducible refine then_exit ?_)
      | (with_reducible refine inBlock_normal ?_)
      | (with_reducible refine inBlock_ret ?_)
      | (with_reducible refine inBlock_hit ?_)
      | (with_reducible refine inBlock_miss (by decide) ?_)
      | (with_reducible refine awp_ret ?_)
      | (with_reducible refine awp_exit ?_)
      | (with_reducible refine post_ret ?_)
      | (with_reducible refine post_normal ?_)
      | (with_reducible refine awp_block ?_)
      | (with_reducible refine awp_scope_ret ?_)
      | (with_reducible refine awp_label ?_)
      | (with_reducible refine v_reg [] (fun K hK => ?_))
      | (with_reducible refine v_reg1 [] (fun K hK => ?_))
      | (with_reducible refine v_draw mixed [] [] (by kernel_rfl) (fun K hK => ?_))
      | (with_reducible refine v_draw1 mixed [] [] (by kernel_rfl) (fun K hK => ?_))
      | (with_reducible refine ev_nil (hK _ _ ?_); clear hK K)
      | (with_reducible refine ed_nil (hK _ _ ?_); clear hK K)
      | ((first | with_reducible refine ev_cons (fun K' hK' => ?_) | with_reducible refine ed_cons (fun K' hK' => ?_) | (with_reducible refine ev_id ?_; refine ev_guard rfl (fun K' hK' => ?_)) | (with_reducible refine ed_id ?_; refine ed_guard rfl (fun K' hK' => ?_))); simp [hK]; repeat' (first | (with_reducible refine hK' _ _ ?_; clear hK' K') | (with_reducible refine Ret.use hmay ?_; try simp [hK]) | (with_reducible refine And.intro ?_ ?_) | (with_reducible intro hg) | (clear hK' K'; omega)))
      | (with_reducible refine w_cond (fun A B hA hB => ?_); simp [hK]; repeat' (first | (with_reducible refine hA ?_; clear hA hB A B) | (with_reducible refine hB ?_; clear hA hB A B) | (with_reducible refine And.intro ?_ ?_) | (with_reducible intro hc)))
      | (with_reducible refine awp_seq ?_))
    simp [packT, hK, rows]
  | true =>
  have hK' := hK
  simp only [mayK, Bool.and_eq_true, decide_eq_true_eq] at hK'
  obtain ⟨⟨hA, hk1⟩, hk8⟩ := hK'
  obtain ⟨m, rfl, hm1, N⟩ := mayA_net hA
  obtain ⟨kk, rfl⟩ := Int.eq_ofNat_of_zero_le (show 0 ≤ k by omega)
  have hnl := N.nle
  repeat' (first
    | (with_reducible refine awp_skip ?_)
    | (with_reducible refine then_any ?_)
    | (with_reducible refine then_ret ?_)
    | (with_reducible refine then_exit ?_)
    | (with_reducible refine inBlock_normal ?_)
    | (with_reducible refine inBlock_ret ?_)
    | (with_reducible refine inBlock_hit ?_)
    | (with_reducible refine inBlock_miss (by decide) ?_)
    | (with_reducible refine awp_ret ?_)
    | (with_reducible refine awp_exit ?_)
    | (with_reducible refine post_ret ?_)
    | (with_reducible refine post_normal ?_)
    | (with_reducible refine awp_block ?_)
    | (with_reducible refine awp_scope_ret ?_)
    | (with_reducible refine awp_label ?_)
    | (with_reducible refine v_reg [] (fun K hK => ?_))
    | (with_reducible refine v_reg1 [] (fun K hK => ?_))
    | (with_reducible refine v_draw mixed [] [] (by kernel_rfl) (fun K hK => ?_))
    | (with_reducible refine v_draw1 mixed [] [] (by kernel_rfl) (fun K hK => ?_))
    | (with_reducible refine ev_nil (hK _ _ ?_); clear hK K)
    | (with_reducible refine ed_nil (hK _ _ ?_); clear hK K)
    | ((first | with_reducible refine ev_cons (fun K' hK' => ?_) | with_reducible refine ed_cons (fun K' hK' => ?_) | (with_reducible refine ev_id ?_; refine ev_guard rfl (fun K' hK' => ?_)) | (with_reducible refine ed_id ?_; refine ed_guard rfl (fun K' hK' => ?_))); simp [hK]; repeat' (first | (with_reducible refine hK' _ _ ?_; clear hK' K') | (with_reducible refine Ret.use hmay ?_; try simp [hK]) | (with_reducible refine And.intro ?_ ?_) | (with_reducible intro hg) | (clear hK' K'; omega)))
    | (with_reducible refine w_cond (fun A B hA hB => ?_); simp [hK]; repeat' (first | (with_reducible refine hA ?_; clear hA hB A B) | (with_reducible refine hB ?_; clear hA hB A B) | (with_reducible refine And.intro ?_ ?_) | (with_reducible intro hc)))
    | (with_reducible refine awp_seq ?_))
  refine awp_loop (fun env h => ∃ v : Nat, v ≤ m ∧ (∀ u : Int, 0 ≤ u → u < v → u ≠ root → kk ≤ (flowA arcs m no0 root u).1) ∧ env 25 = I v ∧ env 24 = I m ∧ env 0 = I m ∧ env 1 = pairs arcs ∧ env 2 = I root ∧ env 3 = I kk ∧ h = H) (fun env _ => m - natA (env 25)) ?_ ?_
  · exact ⟨0, by omega, fun u a b => by omega, by simp, by simp, by simp, by simp, by simp, by simp, rfl⟩
  rintro env h ⟨v, hv, hno, h25, h24, h0, h1, h2, h3, rfl⟩
  have hnat : natA (env 25) = v := by simp [h25]
  rw [hnat]; clear hnat
  by_cases hlt : v < m
  · have hfl := flow_ret (w0 := w0) (n := m) (root := root) (v := v) ha
    by_cases hr : (v : Int) = root
    · subst hr
      rw [flowT_root] at hfl
      repeat' (first
        | (with_reducible refine awp_skip ?_)
        | (with_reducible refine then_any ?_)
        | (with_reducible refine then_ret ?_)
        | (with_reducible refine then_exit ?_)
        | (with_reducible refine inBlock_normal ?_)
        | (with_reducible refine inBlock_ret ?_)
        | (with_reducible refine inBlock_hit ?_)
        | (with_reducible refine inBlock_miss (by decide) ?_)
        | (with_reducible refine awp_ret ?_)
        | (with_reducible refine awp_exit ?_)
        | (with_reducible refine post_ret ?_)
        | (with_reducible refine post_normal ?_)
        | (with_reducible refine awp_block ?_)
        | (with_reducible refine awp_scope_ret ?_)
        | (with_reducible refine awp_label ?_)
        | (with_reducible refine v_reg [] (fun K hK => ?_))
        | (with_reducible refine v_reg1 [] (fun K hK => ?_))
        | (with_reducible refine v_draw mixed [] [] (by kernel_rfl) (fun K hK => ?_))
        | (with_reducible refine v_draw1 mixed [] [] (by kernel_rfl) (fun K hK => ?_))
        | (with_reducible refine ev_nil (hK _ _ ?_); clear hK K)
        | (with_reducible refine ed_nil (hK _ _ ?_); clear hK K)
        | ((first | with_reducible refine ev_cons (fun K' hK' => ?_) | with_reducible refine ed_cons (fun K' hK' => ?_) | (with_reducible refine ev_id ?_; refine ev_guard rfl (fun K' hK' => ?_)) | (with_reducible refine ed_id ?_; refine ed_guard rfl (fun K' hK' => ?_))); simp [h25, h24, h0, h1, h2, h3, hlt]; repeat' (first | (with_reducible refine hK' _ _ ?_; clear hK' K') | (with_reducible refine Ret.use hfl ?_; try simp [h25, h24, h0, h1, h2, h3, hlt]) | (with_reducible refine And.intro ?_ ?_) | (with_reducible intro hg) | (clear hK' K'; omega)))
        | (with_reducible refine w_cond (fun A B hA hB => ?_); simp [h25, h24, h0, h1, h2, h3, hlt]; repeat' (first | (with_reducible refine hA ?_; clear hA hB A B) | (with_reducible refine hB ?_; clear hA hB A B) | (with_reducible refine And.intro ?_ ?_) | (with_reducible intro hc)))
        | (with_reducible refine awp_seq ?_))
      exact ⟨⟨v + 1, by omega, fun u a b c => hno u a (by omega) c, by simp, by simp [h24], by simp [h0], by simp [h1], by simp [h2], by simp [h3], rfl⟩, by simp; omega⟩
    · rw [flowT_ok hA (by omega) (by omega) hr] at hfl
      by_cases hu : (flowA arcs m no0 root v).1 < kk
      · have hb := badV_some hlt hno hr hu
        repeat' (first
          | (with_reducible refine awp_skip ?_)
          | (with_reducible refine then_any ?_)
          | (with_reducible refine then_ret ?_)
          | (with_reducible refine then_exit ?_)
          | (with_reducible refine inBlock_normal ?_)
          | (with_reducible refine inBlock_ret ?_)
          | (with_reducible refine inBlock_hit ?_)
          | (with_reducible refine inBlock_miss (by decide) ?_)
          | (with_reducible refine awp_ret ?_)
          | (with_reducible refine awp_exit ?_)
          | (with_reducible refine post_ret ?_)
          | (with_reducible refine post_normal ?_)
          | (with_reducible refine awp_block ?_)
          | (with_reducible refine awp_scope_ret ?_)
          | (with_reducible refine awp_label ?_)
          | (with_reducible refine v_reg [] (fun K hK => ?_))
          | (with_reducible refine v_reg1 [] (fun K hK => ?_))
          | (with_reducible refine v_draw mixed [] [] (by kernel_rfl) (fun K hK => ?_))
          | (with_reducible refine v_draw1 mixed [] [] (by kernel_rfl) (fun K hK => ?_))
          | (with_reducible refine ev_nil (hK _ _ ?_); clear hK K)
          | (with_reducible refine ed_nil (hK _ _ ?_); clear hK K)
          | ((first | with_reducible refine ev_cons (fun K' hK' => ?_) | with_reducible refine ed_cons (fun K' hK' => ?_) | (with_reducible refine ev_id ?_; refine ev_guard rfl (fun K' hK' => ?_)) | (with_reducible refine ed_id ?_; refine ed_guard rfl (fun K' hK' => ?_))); simp [h25, h24, h0, h1, h2, h3, hlt, hu]; repeat' (first | (with_reducible refine hK' _ _ ?_; clear hK' K') | (with_reducible refine Ret.use hfl ?_; try simp [h25, h24, h0, h1, h2, h3, hlt, hu]) | (with_reducible refine And.intro ?_ ?_) | (with_reducible intro hg) | (clear hK' K'; omega)))
          | (with_reducible refine w_cond (fun A B hA hB => ?_); simp [h25, h24, h0, h1, h2, h3, hlt, hu]; repeat' (first | (with_reducible refine hA ?_; clear hA hB A B) | (with_reducible refine hB ?_; clear hA hB A B) | (with_reducible refine And.intro ?_ ?_) | (with_reducible intro hc)))
          | (with_reducible refine awp_seq ?_))
        simp [packT, hK, hb, rows]
      · repeat' (first
          | (with_reducible refine awp_skip ?_)
          | (with_reducible refine then_any ?_)
          | (with_reducible refine then_ret ?_)
          | (with_reducible refine then_exit ?_)
          | (with_reducible refine inBlock_normal ?_)
          | (with_reducible refine inBlock_ret ?_)
          | (with_reducible refine inBlock_hit ?_)
          | (with_reducible refine inBlock_miss (by decide) ?_)
          | (with_reducible refine awp_ret ?_)
          | (with_reducible refine awp_exit ?_)
          | (with_reducible refine post_ret ?_)
          | (with_reducible refine post_normal ?_)
          | (with_reducible refine awp_block ?_)
          | (with_reducible refine awp_scope_ret ?_)
          | (with_reducible refine awp_label ?_)
          | (with_reducible refine v_reg [] (fun K hK => ?_))
          | (with_reducible refine v_reg1 [] (fun K hK => ?_))
          | (with_reducible refine v_draw mixed [] [] (by kernel_rfl) (fun K hK => ?_))
          | (with_reducible refine v_draw1 mixed [] [] (by kernel_rfl) (fun K hK => ?_))
          | (with_reducible refine ev_nil (hK _ _ ?_); clear hK K)
          | (with_reducible refine ed_nil (hK _ _ ?_); clear hK K)
          | ((first | with_reducible refine ev_cons (fun K' hK' => ?_) | with_reducible refine ed_cons (fun K' hK' => ?_) | (with_reducible refine ev_id ?_; refine ev_guard rfl (fun K' hK' => ?_)) | (with_reducible refine ed_id ?_; refine ed_guard rfl (fun K' hK' => ?_))); simp [h25, h24, h0, h1, h2, h3, hlt, hu]; repeat' (first | (with_reducible refine hK' _ _ ?_; clear hK' K') | (with_reducible refine Ret.use hfl ?_; try simp [h25, h24, h0, h1, h2, h3, hlt, hu]) | (with_reducible refine And.intro ?_ ?_) | (with_reducible intro hg) | (clear hK' K'; omega)))
          | (with_reducible refine w_cond (fun A B hA hB => ?_); simp [h25, h24, h0, h1, h2, h3, hlt, hu]; repeat' (first | (with_reducible refine hA ?_; clear hA hB A B) | (with_reducible refine hB ?_; clear hA hB A B) | (with_reducible refine And.intro ?_ ?_) | (with_reducible intro hc)))
          | (with_reducible refine awp_seq ?_))
        exact ⟨⟨v + 1, by omega, fun u a b c => by by_cases e : u = v; (· rw [e]; omega); (· exact hno u a (by omega) c), by simp, by simp [h24], by simp [h0], by simp [h1], by simp [h2], by simp [h3], rfl⟩, by simp; omega⟩
  · have : v = m := by omega
    subst this
    have hb := badV_none hno
    have hml := N.mle
    repeat' (first
      | (with_reducible refine awp_skip ?_)
      | (with_reducible refine then_any ?_)
      | (with_reducible refine then_ret ?_)
      | (with_reducible refine then_exit ?_)
      | (with_reducible refine inBlock_normal ?_)
      | (with_reducible refine inBlock_ret ?_)
      | (with_reducible refine inBlock_hit ?_)
      | (with_reducible refine inBlock_miss (by decide) ?_)
      | (with_reducible refine awp_ret ?_)
      | (with_reducible refine awp_exit ?_)
      | (with_reducible refine post_ret ?_)
      | (with_reducible refine post_normal ?_)
      | (with_reducible refine awp_block ?_)
      | (with_reducible refine awp_scope_ret ?_)
      | (with_reducible refine awp_label ?_)
      | (with_reducible refine v_reg [16] (fun K hK => ?_))
      | (with_reducible refine v_reg1 [16] (fun K hK => ?_))
      | (with_reducible refine v_draw mixed [16] [] (by kernel_rfl) (fun K hK => ?_))
      | (with_reducible refine v_draw1 mixed [16] [] (by kernel_rfl) (fun K hK => ?_))
      | (with_reducible refine ev_nil (hK _ _ ?_); clear hK K)
      | (with_reducible refine ed_nil (hK _ _ ?_); clear hK K)
      | ((first | with_reducible refine ev_cons (fun K' hK' => ?_) | with_reducible refine ed_cons (fun K' hK' => ?_) | (with_reducible refine ev_id ?_; refine ev_guard rfl (fun K' hK' => ?_)) | (with_reducible refine ed_id ?_; refine ed_guard rfl (fun K' hK' => ?_))); simp [h25, h24, h0, h1, h2, h3, pairs]; repeat' (first | (with_reducible refine hK' _ _ ?_; clear hK' K') | (with_reducible refine And.intro ?_ ?_) | (with_reducible intro hg) | (clear hK' K'; omega)))
      | (with_reducible refine w_cond (fun A B hA hB => ?_); simp [h25, h24, h0, h1, h2, h3, pairs]; repeat' (first | (with_reducible refine hA ?_; clear hA hB A B) | (with_reducible refine hB ?_; clear hA hB A B) | (with_reducible refine And.intro ?_ ?_) | (with_reducible intro hc)))
      | (with_reducible refine awp_seq ?_))
    rename_i G hG O
    obtain ⟨hOG, hO⟩ : O ≠ G ∧ h O = none := by
      have h1 : O ≠ G := by rintro rfl; simp at hg
      exact ⟨h1, by rw [if_neg h1] at hg; exact hg⟩
    clear hg
    have hGO : upd h O (some (Blk.arr 1 27 [] 0)) G = none := by rw [upd_ne _ _ _ (Ne.symm hOG)]; exact hG
    rw [labB_rep, upd_comm _ _ _ (Ne.symm hOG)]
    refine awp_loop (fun env h' => ∃ i : Nat, i ≤ kk ∧ env 50 = I i ∧ env 49 = I kk ∧ env 0 = I v ∧ env 1 = pairs arcs ∧ env 2 = I root ∧ env 3 = I kk ∧ env 15 = .ref G 0 arcs.length arcs.length ∧ env 16 = .ref O 0 i i ∧
      h' = upd (upd h O (some (.arr 1 27 ((packI arcs v root kk i).2.map ints) i))) G (some (.arr 1 4 (labB arcs.length (packI arcs v root kk i).1) arcs.length))) (fun env _ => kk - natA (env 50)) ?_ ?_
    · exact ⟨0, by omega, by simp, by simp, by simp [h0], by simp [h1], by simp [h2], by simp [h3], by simp, by simp, by simp [packI]⟩
    clear h25 h24 h0 h1 h2 h3
    rintro env h' ⟨i, hi, h50, h49, h0, h1, h2, h3, h15, h16, rfl⟩
    have hnat : natA (env 50) = i := by simp [h50]
    rw [hnat]; clear hnat
    by_cases hik : i < kk
    · have hcast : (kk : Int) - 1 - i = ((kk - 1 - i : Nat) : Int) := by omega
      have hcast2 : ((kk - 1 - i : Nat) : Int) = (kk : Int) - 1 - i := by omega
      have hpl := packI_length arcs v root kk i
      have hsucc : packI arcs v root kk (i + 1) = ((finG arcs v root (kk - 1 - i) (packI arcs v root kk i).1).gone, (packI arcs v root kk i).2 ++ [growL arcs v root (kk - 1 - i) (packI arcs v root kk i).1]) := rfl
      obtain ⟨⟨g, L⟩, hgL⟩ : ∃ p, p = packI arcs v root kk i := ⟨_, rfl⟩
      rw [← hgL] at hpl hsucc ⊢
      have hgrow := fun (Hx : Heap) (hx : Hx G = none) (K : AV → Heap → Prop) k' => grow_use (w0 := w0) (H := Hx) (G := G) (n := v) (others := kk - 1 - i) (gone := g) (K := K) N (by omega) hx k'
      simp only [hcast2] at hgrow
      have hx : upd h O (some (.arr 1 27 (L.map ints) i)) G = none := by rw [upd_ne _ _ _ (Ne.symm hOG)]; exact hG
      have hll : L.length ≤ 8 := by simp only at hpl; omega
      simp only at hpl
      have hupd : ∀ a b c, upd (upd (upd h O a) G b) O c = upd (upd h O c) G b := fun a b c => by rw [upd_comm _ _ _ (Ne.symm hOG), upd_upd]
      repeat' (first
        | (with_reducible refine awp_skip ?_)
        | (with_reducible refine then_any ?_)
        | (with_reducible refine then_ret ?_)
        | (with_reducible refine then_exit ?_)
        | (with_reducible refine inBlock_normal ?_)
        | (with_reducible refine inBlock_ret ?_)
        | (with_reducible refine inBlock_hit ?_)
        | (with_reducible refine inBlock_miss (by decide) ?_)
        | (with_reducible refine awp_ret ?_)
        | (with_reducible refine awp_exit ?_)
        | (with_reducible refine post_ret ?_)
        | (with_reducible refine post_normal ?_)
        | (with_reducible refine awp_block ?_)
        | (with_reducible refine awp_scope_ret ?_)
        | (with_reducible refine awp_label ?_)
        | (with_reducible refine v_reg [] (fun K hK => ?_))
        | (with_reducible refine v_reg1 [] (fun K hK => ?_))
        | (with_reducible refine v_draw mixed [] [] (by kernel_rfl) (fun K hK => ?_))
        | (with_reducible refine v_draw1 mixed [] [] (by kernel_rfl) (fun K hK => ?_))
        | (with_reducible refine ev_nil (hK _ _ ?_); clear hK K)
        | (with_reducible refine ed_nil (hK _ _ ?_); clear hK K)
        | ((first | with_reducible refine ev_cons (fun K' hK' => ?_) | with_reducible refine ed_cons (fun K' hK' => ?_) | (with_reducible refine ev_id ?_; refine ev_guard rfl (fun K' hK' => ?_)) | (with_reducible refine ed_id ?_; refine ed_guard rfl (fun K' hK' => ?_))); simp [h50, h49, h0, h1, h2, h3, h15, h16, hik, hOG, hupd]; repeat' (first | (with_reducible refine hK' _ _ ?_; clear hK' K') | ((with_reducible refine hgrow _ hx _ ?_); try simp [h50, h49, h0, h1, h2, h3, h15, h16, hik, hOG, hupd]) | (with_reducible refine And.intro ?_ ?_) | (with_reducible intro hg) | (clear hK' K'; omega)))
        | (with_reducible refine w_cond (fun A B hA hB => ?_); simp [h50, h49, h0, h1, h2, h3, h15, h16, hik, hOG, hupd]; repeat' (first | (with_reducible refine hA ?_; clear hA hB A B) | (with_reducible refine hB ?_; clear hA hB A B) | (with_reducible refine And.intro ?_ ?_) | (with_reducible intro hc)))
        | (with_reducible refine awp_seq ?_))
      exact ⟨⟨i + 1, by omega, by simp, by simp [h49], by simp [h0], by simp [h1], by simp [h2], by simp [h3], by simp [h15], by simp, by rw [hsucc]; simp⟩, by simp; omega⟩
    · have : i = kk := by omega
      subst this
      have hpl := packI_length arcs v root i i
      repeat' (first
        | (with_reducible refine awp_skip ?_)
        | (with_reducible refine then_any ?_)
        | (with_reducible refine then_ret ?_)
        | (with_reducible refine then_exit ?_)
        | (with_reducible refine inBlock_normal ?_)
        | (with_reducible refine inBlock_ret ?_)
        | (with_reducible refine inBlock_hit ?_)
        | (with_reducible refine inBlock_miss (by decide) ?_)
        | (with_reducible refine awp_ret ?_)
        | (with_reducible refine awp_exit ?_)
        | (with_reducible refine post_ret ?_)
        | (with_reducible refine post_normal ?_)
        | (with_reducible refine awp_block ?_)
        | (with_reducible refine awp_scope_ret ?_)
        | (with_reducible refine awp_label ?_)
        | ((fail_if_success (with_reducible refine at_reg 17 ?_)); with_reducible refine v_reg [] (fun K hK => ?_))
        | (with_reducible refine v_reg1 [] (fun K hK => ?_))
        | ((fail_if_success (with_reducible refine at_reg 17 ?_)); with_reducible refine v_draw mixed [] [] (by kernel_rfl) (fun K hK => ?_))
        | (with_reducible refine v_draw1 mixed [] [] (by kernel_rfl) (fun K hK => ?_))
        | (with_reducible refine ev_nil (hK _ _ ?_); clear hK K)
        | (with_reducible refine ed_nil (hK _ _ ?_); clear hK K)
        | ((first | with_reducible refine ev_cons (fun K' hK' => ?_) | with_reducible refine ed_cons (fun K' hK' => ?_) | (with_reducible refine ev_id ?_; refine ev_guard rfl (fun K' hK' => ?_)) | (with_reducible refine ed_id ?_; refine ed_guard rfl (fun K' hK' => ?_))); simp [h50, h49]; repeat' (first | (with_reducible refine hK' _ _ ?_; clear hK' K') | (with_reducible refine And.intro ?_ ?_) | (with_reducible intro hg) | (clear hK' K'; omega)))
        | (with_reducible refine w_cond (fun A B hA hB => ?_); simp [h50, h49]; repeat' (first | (with_reducible refine hA ?_; clear hA hB A B) | (with_reducible refine hB ?_; clear hA hB A B) | (with_reducible refine And.intro ?_ ?_) | (with_reducible intro hc)))
        | ((fail_if_success (with_reducible refine at_reg 17 ?_)); with_reducible refine awp_seq ?_))
      refine awp_freeze 16 (r := O) (off := 0) (len := i) (top := i) (by simp [h16]) (by rw [upd_ne _ _ _ hOG, upd_same]) ?_
      have hcut : cut 1 ((packI arcs v root i i).2.map ints) 0 i = rows (packI arcs v root i i).2 := by
        have := cut_map ints (packI arcs v root i i).2
        rw [hpl] at this
        rw [this, rows, hpl]
      rw [hcut]
      repeat' (first
        | (with_reducible refine awp_skip ?_)
        | (with_reducible refine then_any ?_)
        | (with_reducible refine then_ret ?_)
        | (with_reducible refine then_exit ?_)
        | (with_reducible refine inBlock_normal ?_)
        | (with_reducible refine inBlock_ret ?_)
        | (with_reducible refine inBlock_hit ?_)
        | (with_reducible refine inBlock_miss (by decide) ?_)
        | (with_reducible refine awp_ret ?_)
        | (with_reducible refine awp_exit ?_)
        | (with_reducible refine post_ret ?_)
        | (with_reducible refine post_normal ?_)
        | (with_reducible refine awp_block ?_)
        | (with_reducible refine awp_scope_ret ?_)
        | (with_reducible refine awp_label ?_)
        | (with_reducible refine v_reg [] (fun K hK => ?_))
        | (with_reducible refine v_reg1 [] (fun K hK => ?_))
        | (with_reducible refine v_draw mixed [] [] (by kernel_rfl) (fun K hK => ?_))
        | (with_reducible refine v_draw1 mixed [] [] (by kernel_rfl) (fun K hK => ?_))
        | (with_reducible refine ev_nil (hK _ _ ?_); clear hK K)
        | (with_reducible refine ed_nil (hK _ _ ?_); clear hK K)
        | ((first | with_reducible refine ev_cons (fun K' hK' => ?_) | with_reducible refine ed_cons (fun K' hK' => ?_) | (with_reducible refine ev_id ?_; refine ev_guard rfl (fun K' hK' => ?_)) | (with_reducible refine ed_id ?_; refine ed_guard rfl (fun K' hK' => ?_))); simp; repeat' (first | (with_reducible refine hK' _ _ ?_; clear hK' K') | (with_reducible refine And.intro ?_ ?_) | (with_reducible intro hg) | (clear hK' K'; omega)))
        | (with_reducible refine w_cond (fun A B hA hB => ?_); simp; repeat' (first | (with_reducible refine hA ?_; clear hA hB A B) | (with_reducible refine hB ?_; clear hA hB A B) | (with_reducible refine And.intro ?_ ?_) | (with_reducible intro hc)))
        | (with_reducible refine awp_seq ?_))
      refine ⟨by simp [packT, hK, hb], ?_⟩
      exact (((Sub.refl h).upd hO _).upd hG _).upd hO _
end Go.Am
