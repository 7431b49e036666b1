/- Contracts: the parts of a graph. -/
import Derived.Test.YtbcgjjkchmgeoaaW7
namespace Go.Am
open Go Go.Proofs
set_option linter.unusedVariables false
set_option linter.unusedSimpArgs false
variable {w0 : World}
attribute [local irreducible] AWP ACalls
attribute [local congr] acalls_congr

theorem compJ_spec (es : List (Int × Int)) : ∀ w, (compJ es).1 w ≤ w ∧ (compJ es).1 ((compJ es).1 w) = (compJ es).1 w := by
  unfold compJ
  have : ∀ (es : List (Int × Int)) (s : (Nat → Nat) × Nat), (∀ w, s.1 w ≤ w ∧ s.1 (s.1 w) = s.1 w) → ∀ w, (es.foldl stepC s).1 w ≤ w ∧ (es.foldl stepC s).1 ((es.foldl stepC s).1 w) = (es.foldl stepC s).1 w := by
    intro es
    induction es with
    | nil => intro s h; exact h
    | cons e es ih =>
      intro s h
      refine ih _ fun w => ?_
      simp only [stepC]
      have ha := (h e.1.toNat).2
      have hb := (h e.2.toNat).2
      generalize s.1 e.1.toNat = a at ha ⊢
      generalize s.1 e.2.toNat = b at hb ⊢
      have hm : s.1 (min a b) = min a b := by
        rcases Nat.le_total a b with h | h
        · rw [Nat.min_eq_left h]; exact ha
        · rw [Nat.min_eq_right h]; exact hb
      have hw := h w
      by_cases e1 : s.1 w = max a b
      · rw [if_pos e1, hm]
        refine ⟨by omega, by split <;> rfl⟩
      · rw [if_neg e1, hw.2, if_neg e1]
        exact ⟨hw.1, rfl⟩
  exact this es (id, 0) fun w => ⟨Nat.le_refl _, rfl⟩

def rootsK (c : Nat → Nat) (k : Nat) : List Nat := (List.range k).filter fun r => c r = r
def partK (c : Nat → Nat) (k r : Nat) : List Int := ((List.range k).filter fun w => c w = r).map fun w : Nat => (w : Int)
/-- The parts, of the first k vertices. -/
def partsK (c : Nat → Nat) (k : Nat) : List (List Int) := (rootsK c k).map (partK c k)

theorem rootsK_succ (c : Nat → Nat) (k : Nat) : rootsK c (k + 1) = rootsK c k ++ if c k = k then [k] else [] := by
  simp only [rootsK, List.range_succ, List.filter_append, List.filter_cons, List.filter_nil]
  split <;> simp_all
theorem partK_succ (c : Nat → Nat) (k r : Nat) : partK c (k + 1) r = partK c k r ++ if c k = r then [(k : Int)] else [] := by
  simp only [partK, List.range_succ, List.filter_append, List.filter_cons, List.filter_nil, List.map_append]
  split <;> simp_all
theorem mem_rootsK {c : Nat → Nat} {k r : Nat} : r ∈ rootsK c k ↔ r < k ∧ c r = r := by simp [rootsK]
theorem rootsK_nodup (c : Nat → Nat) (k : Nat) : (rootsK c k).Nodup := List.Pairwise.filter _ List.nodup_range
theorem partsK_length (c : Nat → Nat) (k : Nat) : (partsK c k).length = (rootsK c k).length := by simp [partsK]
theorem rootsK_le (c : Nat → Nat) (k : Nat) : (rootsK c k).length ≤ k := by
  have := List.length_filter_le (fun r => decide (c r = r)) (List.range k)
  simpa [rootsK] using this
theorem partK_le (c : Nat → Nat) (k r : Nat) : (partK c k r).length ≤ k := by
  have := List.length_filter_le (fun w => decide (c w = r)) (List.range k)
  simpa [partK] using this

theorem partsK_root {c : Nat → Nat} {k : Nat} (hle : ∀ w, c w ≤ w) (h : c k = k) : partsK c (k + 1) = (partsK c k ++ [[]]).set (rootsK c k).length [(k : Int)] := by
  have h0 : partK c k k = [] := by
    simp only [partK, List.map_eq_nil_iff, List.filter_eq_nil_iff, List.mem_range, decide_eq_true_eq]
    intro w hw
    have := hle w
    omega
  unfold partsK
  rw [rootsK_succ, if_pos h, List.map_append]
  have : (rootsK c k).map (partK c (k + 1)) = (rootsK c k).map (partK c k) := by
    apply List.map_congr_left
    intro r hr
    have := mem_rootsK.1 hr
    rw [partK_succ, if_neg (by omega), List.append_nil]
  rw [this, List.set_append_right _ _ (by simp)]
  simp [partK_succ, h0, h]

theorem partsK_more {c : Nat → Nat} {k j r : Nat} (hj : (rootsK c k)[j]? = some r) (h : c k = r) (hr : r ≠ k) : partsK c (k + 1) = (partsK c k).set j (partK c k r ++ [(k : Int)]) := by
  unfold partsK
  rw [rootsK_succ, if_neg (by omega), List.append_nil]
  refine List.ext_getElem? fun i => ?_
  have hjl := (List.getElem?_eq_some_iff.1 hj).1
  rw [List.getElem?_map, List.getElem?_set]
  by_cases e : j = i
  · subst e
    rw [hj]
    simp [partK_succ, h, hjl]
  · rw [if_neg e, List.getElem?_map]
    cases hi : (rootsK c k)[i]? with
    | none => rfl
    | some q =>
      have hq : q ≠ r := by
        intro e2
        subst e2
        have := (rootsK_nodup c k)
        obtain ⟨h1, h2⟩ := List.getElem?_eq_some_iff.1 hi
        obtain ⟨h3, h4⟩ := List.getElem?_eq_some_iff.1 hj
        exact e ((List.getElem_inj this).1 (h4.trans h2.symm))
      simp only [Option.map_some, partK_succ]
      rw [if_neg (by omega), List.append_nil]

/-- The parts of a graph. -/
def partsL (n : Int) (es : List (Int × Int)) : List (List Int) := if validG n es then partsK (compJ es).1 n.toNat else []

theorem parts_ret {n : Int} {es : List (Int × Int)} (he : okLen es) : Ret Try.prog w0 26 [I n, pairs es] (.tup [rows (partsL n es), I (okE n es)]) := by
  intro H
  refine w_enter Try.func26 rfl Try.ntmps26 (ts := [4, 5]) rfl (by simp) (by kernel_rfl) ?_
  cases hv : validG n es with
  | false =>
    repeat' (first
      | (with_reducible refine awp_skip ?_)
      | (with_reducible refine then_any ?_)
      | (with_reducible refine then_ret ?_)
      | (with_reducible refine then_exit ?_)
      | (with_reducible refine inBlock_normal ?_)
      | (with_reducible refine inBlock_ret ?_)
      | (with_reducible refine inBlock_hit ?_)
      | (with_reducible refine inBlock_miss (by decide) ?_)
      | (with_reducible refine awp_ret ?_)
      | (with_reducible refine awp_exit ?_)
      | (with_reducible refine post_ret ?_)
      | (with_reducible refine post_normal ?_)
      | (with_reducible refine awp_block ?_)
      | (with_reducible refine v_reg [] (fun K hK => ?_))
      | (with_reducible refine v_reg1 [] (fun K hK => ?_))
      | (with_reducible refine v_draw mixed [] [] (by kernel_rfl) (fun K hK => ?_))
      | (with_reducible refine v_draw1 mixed [] [] (by kernel_rfl) (fun K hK => ?_))
      | (with_reducible refine ev_nil (hK _ _ ?_); clear hK K)
      | (with_reducible refine ed_nil (hK _ _ ?_); clear hK K)
      | ((first | with_reducible refine ev_cons (fun K' hK' => ?_) | with_reducible refine ed_cons (fun K' hK' => ?_) | (with_reducible refine ev_id ?_; refine ev_guard rfl (fun K' hK' => ?_)) | (with_reducible refine ed_id ?_; refine ed_guard rfl (fun K' hK' => ?_))); simp [pairs, compsL, okE, hv]; repeat' (first | (with_reducible refine hK' _ _ ?_; clear hK' K') | (with_reducible refine Ret.use (comps_ret he) ?_; try simp [pairs, compsL, okE, hv]) | (with_reducible refine And.intro ?_ ?_) | (with_reducible intro hg) | (clear hK' K'; omega)))
      | (with_reducible refine w_cond (fun A B hA hB => ?_); simp [pairs, compsL, okE, hv]; repeat' (first | (with_reducible refine hA ?_; clear hA hB A B) | (with_reducible refine hB ?_; clear hA hB A B) | (with_reducible refine And.intro ?_ ?_) | (with_reducible intro hc)))
      | (with_reducible refine awp_seq ?_))
    simp [partsL, okE, hv]
  | true =>
    obtain ⟨m, rfl, hm1, hm2, hm3⟩ := valid_nat hv
    have hcs := compJ_spec es
    repeat' (first
      | (with_reducible refine awp_skip ?_)
      | (with_reducible refine then_any ?_)
      | (with_reducible refine then_ret ?_)
      | (with_reducible refine then_exit ?_)
      | (with_reducible refine inBlock_normal ?_)
      | (with_reducible refine inBlock_ret ?_)
      | (with_reducible refine inBlock_hit ?_)
      | (with_reducible refine inBlock_miss (by decide) ?_)
      | (with_reducible refine awp_ret ?_)
      | (with_reducible refine awp_exit ?_)
      | (with_reducible refine post_ret ?_)
      | (with_reducible refine post_normal ?_)
      | (with_reducible refine awp_block ?_)
      | (with_reducible refine v_reg [9] (fun K hK => ?_))
      | (with_reducible refine v_reg1 [9] (fun K hK => ?_))
      | (with_reducible refine v_draw mixed [9] [] (by kernel_rfl) (fun K hK => ?_))
      | (with_reducible refine v_draw1 mixed [9] [] (by kernel_rfl) (fun K hK => ?_))
      | (with_reducible refine ev_nil (hK _ _ ?_); clear hK K)
      | (with_reducible refine ed_nil (hK _ _ ?_); clear hK K)
      | ((first | with_reducible refine ev_cons (fun K' hK' => ?_) | with_reducible refine ed_cons (fun K' hK' => ?_) | (with_reducible refine ev_id ?_; refine ev_guard rfl (fun K' hK' => ?_)) | (with_reducible refine ed_id ?_; refine ed_guard rfl (fun K' hK' => ?_))); simp [pairs, compsL, okE, hv]; repeat' (first | (with_reducible refine hK' _ _ ?_; clear hK' K') | (with_reducible refine Ret.use (comps_ret he) ?_; try simp [pairs, compsL, okE, hv]) | (with_reducible refine And.intro ?_ ?_) | (with_reducible intro hg) | (clear hK' K'; omega)))
      | (with_reducible refine w_cond (fun A B hA hB => ?_); simp [pairs, compsL, okE, hv]; repeat' (first | (with_reducible refine hA ?_; clear hA hB A B) | (with_reducible refine hB ?_; clear hA hB A B) | (with_reducible refine And.intro ?_ ?_) | (with_reducible intro hc)))
      | (with_reducible refine awp_seq ?_))
    rename_i Mm hMm O
    have hOM : O ≠ Mm := by rintro rfl; simp at hg
    have hO : H O = none := by rw [if_neg hOM] at hg; exact hg
    clear hg
    refine awp_loop (fun env h => ∃ (k : Nat) (kv : List (Int × Int)) (cells : List AV), k ≤ m ∧ env 24 = I k ∧ env 23 = I m ∧ env 22 = .sl ((List.range m).map fun w => I ((compJ es).1 w : Int)) m ∧ env 8 = .mp Mm ∧
       env 9 = .ref O 0 (rootsK (compJ es).1 k).length (rootsK (compJ es).1 k).length ∧ h Mm = some (.mapI kv) ∧ Rows 24 H h O (partsK (compJ es).1 k) cells ∧
       ∀ (j r : Nat), (rootsK (compJ es).1 k)[j]? = some r → kvGet kv r = some (j : Int)) (fun env _ => m - natA (env 24)) ?_ ?_
    · refine ⟨0, [], [], by omega, by simp, by simp, by simp, by simp, by simp [rootsK], ?_, ?_, fun j r h => by simp [rootsK] at h⟩
      · rw [upd_ne _ _ _ (fun e => hOM e.symm), upd_same]
      · rw [upd_comm _ _ _ (fun e => hOM e.symm)]
        exact (rows_none hO).other (fun _ _ _ _ => by rw [upd_ne _ _ _ (fun e => hOM e.symm), hMm]; simp) hMm
    rintro env h ⟨k, kv, cells, hk, h24, h23, h22, h8, h9, hmp, R, hkv⟩
    have hnat : natA (env 24) = k := by simp [h24]
    rw [hnat]; clear hnat
    have hrl := rootsK_le (compJ es).1 k
    have hpl := partsK_length (compJ es).1 k
    have hcl : cells.length = (rootsK (compJ es).1 k).length := by rw [R.len, hpl]
    have hout := R.out
    rw [hpl] at hout
    have hMO : Mm ≠ O := fun e => hOM e.symm
    by_cases hlt : k < m
    · by_cases hroot : (compJ es).1 k = k
      · repeat' (first
          | (with_reducible refine awp_skip ?_)
          | (with_reducible refine then_any ?_)
          | (with_reducible refine then_ret ?_)
          | (with_reducible refine then_exit ?_)
          | (with_reducible refine inBlock_normal ?_)
          | (with_reducible refine inBlock_ret ?_)
          | (with_reducible refine inBlock_hit ?_)
          | (with_reducible refine inBlock_miss (by decide) ?_)
          | (with_reducible refine awp_ret ?_)
          | (with_reducible refine awp_exit ?_)
          | (with_reducible refine post_ret ?_)
          | (with_reducible refine post_normal ?_)
          | (with_reducible refine awp_block ?_)
          | (with_reducible refine v_reg [] (fun K hK => ?_))
          | (with_reducible refine v_reg1 [] (fun K hK => ?_))
          | (with_reducible refine v_draw mixed [] [42, 46] (by kernel_rfl) (fun K hK => ?_))
          | (with_reducible refine v_draw1 mixed [] [42, 46] (by kernel_rfl) (fun K hK => ?_))
          | (with_reducible refine ev_nil (hK _ _ ?_); clear hK K)
          | (with_reducible refine ed_nil (hK _ _ ?_); clear hK K)
          | ((first | with_reducible refine ev_cons (fun K' hK' => ?_) | with_reducible refine ed_cons (fun K' hK' => ?_) | (with_reducible refine ev_id ?_; refine ev_guard rfl (fun K' hK' => ?_)) | (with_reducible refine ed_id ?_; refine ed_guard rfl (fun K' hK' => ?_))); simp [h24, h23, h22, h8, h9, hmp, hlt, hout, hOM, hMO, hroot, boxes, Blk.isArr, kvGet_set, hcl]; repeat' (first | (with_reducible refine hK' _ _ ?_; clear hK' K') | (with_reducible refine And.intro ?_ ?_) | (with_reducible intro hg) | (clear hK' K'; omega)))
          | (with_reducible refine w_cond (fun A B hA hB => ?_); simp [h24, h23, h22, h8, h9, hmp, hlt, hout, hOM, hMO, hroot, boxes, Blk.isArr, kvGet_set, hcl]; repeat' (first | (with_reducible refine hA ?_; clear hA hB A B) | (with_reducible refine hB ?_; clear hA hB A B) | (with_reducible refine And.intro ?_ ?_) | (with_reducible intro hc)))
          | (with_reducible refine awp_seq ?_))
        rename_i r
        have hrO : O ≠ r := by rintro rfl; simp at hg
        have hrM : r ≠ Mm := by rintro rfl; simp [hMO] at hg
        have hr0 : h r = none := by rw [if_neg (fun e => hrO e.symm), if_neg hrM] at hg; exact hg
        simp [hrO]
        with_reducible refine hK' _ _ ?_
        clear hK' K' hg
        repeat' (first
          | (with_reducible refine awp_skip ?_)
          | (with_reducible refine then_any ?_)
          | (with_reducible refine then_ret ?_)
          | (with_reducible refine then_exit ?_)
          | (with_reducible refine inBlock_normal ?_)
          | (with_reducible refine inBlock_ret ?_)
          | (with_reducible refine inBlock_hit ?_)
          | (with_reducible refine inBlock_miss (by decide) ?_)
          | (with_reducible refine awp_ret ?_)
          | (with_reducible refine awp_exit ?_)
          | (with_reducible refine post_ret ?_)
          | (with_reducible refine post_normal ?_)
          | (with_reducible refine awp_block ?_)
          | (with_reducible refine v_reg [] (fun K hK => ?_))
          | (with_reducible refine v_reg1 [] (fun K hK => ?_))
          | (with_reducible refine v_draw mixed [] [] (by kernel_rfl) (fun K hK => ?_))
          | (with_reducible refine v_draw1 mixed [] [] (by kernel_rfl) (fun K hK => ?_))
          | (with_reducible refine ev_nil (hK _ _ ?_); clear hK K)
          | (with_reducible refine ed_nil (hK _ _ ?_); clear hK K)
          | ((first | with_reducible refine ev_cons (fun K' hK' => ?_) | with_reducible refine ed_cons (fun K' hK' => ?_) | (with_reducible refine ev_id ?_; refine ev_guard rfl (fun K' hK' => ?_)) | (with_reducible refine ed_id ?_; refine ed_guard rfl (fun K' hK' => ?_))); simp [h24, h23, h22, h8, h9, hmp, hlt, hout, hOM, hMO, hroot, hrO, hcl]; repeat' (first | (with_reducible refine hK' _ _ ?_; clear hK' K') | (with_reducible refine And.intro ?_ ?_) | (with_reducible intro hg) | (clear hK' K'; omega)))
          | (with_reducible refine w_cond (fun A B hA hB => ?_); simp [h24, h23, h22, h8, h9, hmp, hlt, hout, hOM, hMO, hroot, hrO, hcl]; repeat' (first | (with_reducible refine hA ?_; clear hA hB A B) | (with_reducible refine hB ?_; clear hA hB A B) | (with_reducible refine And.intro ?_ ?_) | (with_reducible intro hc)))
          | (with_reducible refine awp_seq ?_))
        have hMr : Mm ≠ r := fun e => hrM e.symm
        have R1 := (R.other (k' := some (.mapI (kvSet kv k (rootsK (compJ es).1 k).length))) (fun es e c n => by rw [hmp]; simp) hMm).more
        have R2 := R1.push (i := (rootsK (compJ es).1 k).length) (r := r) (p := []) (v := (k : Int)) (by simp [hpl]) (.inl ⟨rfl, by rw [upd_ne _ _ _ (fun e => hrO e.symm), upd_ne _ _ _ hrM]; exact hr0⟩)
        simp [hpl, hcl] at R2
        refine ⟨⟨k + 1, kvSet kv k (rootsK (compJ es).1 k).length, _, by omega, by simp, by simp [h23], by simp [h22], by simp [h8], by simp [rootsK_succ, hroot], by simp [hMO, hMr], by rw [partsK_root (fun w => (hcs w).1) hroot]; simpa [hcl, hpl] using R2, ?_⟩, by simp; omega⟩
        intro j r' hj'
        rw [rootsK_succ, if_pos hroot, List.getElem?_append] at hj'
        rw [kvGet_set]
        split at hj'
        · have := mem_rootsK.1 (List.mem_of_getElem? hj')
          rw [if_neg (by omega)]
          exact hkv j r' hj'
        · have hj0 : j - (rootsK (compJ es).1 k).length = 0 := by
            have := (List.getElem?_eq_some_iff.1 hj').1
            simp at this; omega
          rw [hj0] at hj'
          simp at hj'
          subst hj'
          rw [if_pos rfl]
          congr 1
          omega
      · have hrt := hcs k
        have hmem : (compJ es).1 k ∈ rootsK (compJ es).1 k := mem_rootsK.2 ⟨by omega, hrt.2⟩
        obtain ⟨j, hj⟩ := List.mem_iff_getElem?.1 hmem
        have hkj := hkv j _ hj
        have hpj : (partsK (compJ es).1 k)[j]? = some (partK (compJ es).1 k ((compJ es).1 k)) := by simp [partsK, hj]
        have hne : partK (compJ es).1 k ((compJ es).1 k) ≠ [] := by
          intro h0
          have : ((compJ es).1 k : Int) ∈ partK (compJ es).1 k ((compJ es).1 k) := by
            simp only [partK, List.mem_map, List.mem_filter, List.mem_range, decide_eq_true_eq]
            exact ⟨_, ⟨by omega, hrt.2⟩, rfl⟩
          rw [h0] at this; cases this
        rcases R.row j _ hpj with ⟨h0, _⟩ | ⟨q, hcq, hq, hHq, hqO⟩
        · exact absurd h0 hne
        have hjl : j < (rootsK (compJ es).1 k).length := (List.getElem?_eq_some_iff.1 hj).1
        have hqM : q ≠ Mm := fun e => by subst e; rw [hq] at hmp; cases hmp
        have hOq : O ≠ q := fun e => hqO e.symm
        have hple := partK_le (compJ es).1 k ((compJ es).1 k)
        have hpm := partsK_more hj rfl hroot
        have hpush := R.push (v := (k : Int)) hpj (.inr hcq)
        rw [hpl] at hpush
        generalize hpp : partK (compJ es).1 k ((compJ es).1 k) = p at *
        have hri : ¬ (((compJ es).1 k : Int) = (k : Int)) := by omega
        have hrs := rootsK_succ (compJ es).1 k
        rw [if_neg hroot, List.append_nil] at hrs
        repeat' (first
          | (with_reducible refine awp_skip ?_)
          | (with_reducible refine then_any ?_)
          | (with_reducible refine then_ret ?_)
          | (with_reducible refine then_exit ?_)
          | (with_reducible refine inBlock_normal ?_)
          | (with_reducible refine inBlock_ret ?_)
          | (with_reducible refine inBlock_hit ?_)
          | (with_reducible refine inBlock_miss (by decide) ?_)
          | (with_reducible refine awp_ret ?_)
          | (with_reducible refine awp_exit ?_)
          | (with_reducible refine post_ret ?_)
          | (with_reducible refine post_normal ?_)
          | (with_reducible refine awp_block ?_)
          | (with_reducible refine v_reg [] (fun K hK => ?_))
          | (with_reducible refine v_reg1 [] (fun K hK => ?_))
          | (with_reducible refine v_draw mixed [] [42, 46] (by kernel_rfl) (fun K hK => ?_))
          | (with_reducible refine v_draw1 mixed [] [42, 46] (by kernel_rfl) (fun K hK => ?_))
          | (with_reducible refine ev_nil (hK _ _ ?_); clear hK K)
          | (with_reducible refine ed_nil (hK _ _ ?_); clear hK K)
          | ((first | with_reducible refine ev_cons (fun K' hK' => ?_) | with_reducible refine ed_cons (fun K' hK' => ?_) | (with_reducible refine ev_id ?_; refine ev_guard rfl (fun K' hK' => ?_)) | (with_reducible refine ed_id ?_; refine ed_guard rfl (fun K' hK' => ?_))); simp [h24, h23, h22, h8, h9, hmp, hlt, hout, hOM, hMO, hri, boxes, Blk.isArr, hkj, hcq, hq, hqO, hqM, hOq, hjl]; repeat' (first | (with_reducible refine hK' _ _ ?_; clear hK' K') | (with_reducible refine And.intro ?_ ?_) | (with_reducible intro hg) | (clear hK' K'; omega)))
          | (with_reducible refine w_cond (fun A B hA hB => ?_); simp [h24, h23, h22, h8, h9, hmp, hlt, hout, hOM, hMO, hri, boxes, Blk.isArr, hkj, hcq, hq, hqO, hqM, hOq, hjl]; repeat' (first | (with_reducible refine hA ?_; clear hA hB A B) | (with_reducible refine hB ?_; clear hA hB A B) | (with_reducible refine And.intro ?_ ?_) | (with_reducible intro hc)))
          | (with_reducible refine awp_seq ?_))
        have hMq : Mm ≠ q := fun e => hqM e.symm
        exact ⟨⟨k + 1, kv, _, by omega, by simp, by simp [h23], by simp [h22], by simp [h8], by rw [hrs]; simp [h9], by simp [hMO, hMq, hmp], by rw [hpm]; simpa using hpush, by rw [hrs]; exact hkv⟩, by simp; omega⟩
    · have : k = m := by omega
      subst this
      rw [← hpl] at h9
      refine awp_rows 9 R h9 fun env' he he' => ?_
      have h24' : env' 24 = I k := by rw [he' _ (by decide), h24]
      have h23' : env' 23 = I k := by rw [he' _ (by decide), h23]
      repeat' (first
        | (with_reducible refine awp_skip ?_)
        | (with_reducible refine then_any ?_)
        | (with_reducible refine then_ret ?_)
        | (with_reducible refine then_exit ?_)
        | (with_reducible refine inBlock_normal ?_)
        | (with_reducible refine inBlock_ret ?_)
        | (with_reducible refine inBlock_hit ?_)
        | (with_reducible refine inBlock_miss (by decide) ?_)
        | (with_reducible refine awp_ret ?_)
        | (with_reducible refine awp_exit ?_)
        | (with_reducible refine post_ret ?_)
        | (with_reducible refine post_normal ?_)
        | (with_reducible refine awp_block ?_)
        | (with_reducible refine v_reg [] (fun K hK => ?_))
        | (with_reducible refine v_reg1 [] (fun K hK => ?_))
        | (with_reducible refine v_draw mixed [] [] (by kernel_rfl) (fun K hK => ?_))
        | (with_reducible refine v_draw1 mixed [] [] (by kernel_rfl) (fun K hK => ?_))
        | (with_reducible refine ev_nil (hK _ _ ?_); clear hK K)
        | (with_reducible refine ed_nil (hK _ _ ?_); clear hK K)
        | ((first | with_reducible refine ev_cons (fun K' hK' => ?_) | with_reducible refine ed_cons (fun K' hK' => ?_) | (with_reducible refine ev_id ?_; refine ev_guard rfl (fun K' hK' => ?_)) | (with_reducible refine ed_id ?_; refine ed_guard rfl (fun K' hK' => ?_))); simp [he, h24', h23']; repeat' (first | (with_reducible refine hK' _ _ ?_; clear hK' K') | (with_reducible refine And.intro ?_ ?_) | (with_reducible intro hg) | (clear hK' K'; omega)))
        | (with_reducible refine w_cond (fun A B hA hB => ?_); simp [he, h24', h23']; repeat' (first | (with_reducible refine hA ?_; clear hA hB A B) | (with_reducible refine hB ?_; clear hA hB A B) | (with_reducible refine And.intro ?_ ?_) | (with_reducible intro hc)))
        | (with_reducible refine awp_seq ?_))
      simp [partsL, okE, hv]

#print axioms parts_ret
end Go.Am
