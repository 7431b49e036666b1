/- Contracts: the law ReachPath. -/
import Derived.Test.YtbcgjjkchmgeoaaW21
namespace Go.Am
open Go Go.Proofs
set_option linter.unusedVariables false
set_option linter.unusedSimpArgs false
variable {w0 : World}
attribute [local irreducible] AWP ACalls
attribute [local congr] acalls_congr

/-- A path of points, and its cells as the law makes them. -/
def adjP (n : Nat) : List (List Int) := (List.range n).map fun i => if i + 1 < n then [(i : Int) + 1] else []
def cellP (n k : Nat) : List AV := (List.range k).map fun i => if i + 1 < n then .sl [I ((i : Int) + 1)] 1 else .sc (.slice none 0 0)
theorem adjP_length (n : Nat) : (adjP n).length = n := by simp [adjP]
theorem outP {n : Nat} {x : Int} (h : 0 ≤ x ∧ x < n) : out (adjP n) x = if x + 1 < n then [x + 1] else [] := by
  rw [out_eq (by rw [adjP_length]; omega)]
  simp only [adjP, List.getElem_map, List.getElem_range]
  have e : ((x.toNat : Nat) : Int) = x := by omega
  rw [e]
  by_cases hx : x + 1 < n
  · rw [if_pos (by omega), if_pos hx]
  · rw [if_neg (by omega), if_neg hx]
theorem grP {n : Nat} (hn : n ≤ 100) : Gr (adjP n) := by
  refine ⟨by rw [adjP_length]; omega, fun l hl => ?_⟩
  rw [adjP_length]
  obtain ⟨i, hi, rfl⟩ := List.mem_map.1 hl
  rw [List.mem_range] at hi
  split
  · exact pts_one (by omega) (by omega)
  · exact .nil
theorem wksP (n : Nat) : Wks (.sl (cellP n n) n) (rows (adjP n)) := by
  rw [rows, adjP_length]
  refine Wks.sl (by simp [adjP, cellP]) fun i a b ha hb => ?_
  simp only [cellP, adjP, List.map_map, List.getElem?_map] at ha hb
  by_cases hi : i < n
  · rw [List.getElem?_range hi] at ha hb
    simp only [Option.map_some, Option.some.injEq, Function.comp] at ha hb
    subst ha hb
    split
    · exact ⟨.refl _, rfl⟩
    · exact ⟨.nil, rfl⟩
  · have : (List.range n)[i]? = none := List.getElem?_eq_none (by simpa using hi)
    rw [this] at ha; cases ha
theorem cellP_succ {n k : Nat} : cellP n (k + 1) = cellP n k ++ [if k + 1 < n then .sl [I ((k : Int) + 1)] 1 else .sc (.slice none 0 0)] := by simp [cellP, List.range_succ]
theorem cellP_length (n k : Nat) : (cellP n k).length = k := by simp [cellP]

theorem fromP0 {n : Nat} (h1 : 1 ≤ n) (hn : n ≤ 100) : levL (adjP n) [0] (adjP n).length = upto n := by
  have hG := grP hn
  have hp : Pts (adjP n).length [0] := pts_one (by rw [adjP_length]; omega) (by rw [adjP_length]; omega)
  have hl := lev_pts hG hp (adjP n).length
  have hk : ∀ k : Nat, k < n → (k : Int) ∈ levL (adjP n) [0] k := by
    intro k
    induction k with
    | zero => intro _; simp [levL]
    | succ k ih =>
      intro hk
      refine (mem_lev hG hp).2 (.inr ⟨k, ih (by omega), ?_⟩)
      rw [outP (by omega), if_pos (by omega)]
      simp
  refine up_ext hl.set.up (up_upto n) fun x => ?_
  rw [mem_upto]
  constructor
  · intro h; have := hl.lt x h; rwa [adjP_length] at this
  · intro h
    have := hk x.toNat (by omega)
    rw [show ((x.toNat : Nat) : Int) = x by omega] at this
    exact lev_le hG hp this
theorem fromPn {n : Nat} (h1 : 1 ≤ n) (hn : n ≤ 100) : levL (adjP n) [(n : Int) - 1] (adjP n).length = [(n : Int) - 1] := by
  have hG := grP hn
  have hp : Pts (adjP n).length [(n : Int) - 1] := pts_one (by rw [adjP_length]; omega) (by rw [adjP_length]; omega)
  have hl := lev_pts hG hp (adjP n).length
  have hk : ∀ (k : Nat) (x : Int), x ∈ levL (adjP n) [(n : Int) - 1] k → x = n - 1 := by
    intro k
    induction k with
    | zero => intro x h; simpa [levL] using h
    | succ k ih =>
      intro x hx
      rcases (mem_lev hG hp).1 hx with hx | ⟨y, hy, hx⟩
      · exact ih x hx
      · have := ih y hy
        subst this
        rw [outP (by omega), if_neg (by omega)] at hx
        cases hx
  refine up_ext hl.set.up hp.set.up fun x => ?_
  constructor
  · intro h; simpa using hk _ x h
  · intro h
    exact lev_mono hG hp (Nat.zero_le _) h

theorem distP {n : Nat} (h1 : 1 ≤ n) (hn : n ≤ 100) : ∀ (j : Nat), j < n → distL (turnL (adjP n)) [(n : Int) - 1] ((n : Int) - 1 - j) = j := by
  have hG := grP hn
  have ht : Pts (adjP n).length [(n : Int) - 1] := pts_one (by rw [adjP_length]; omega) (by rw [adjP_length]; omega)
  intro j
  induction j with
  | zero => intro _; have := (dt_zero hG ht (v := (n : Int) - 1 - (0 : Nat))).2 (by simp); simpa using this
  | succ j ih =>
    intro hj
    have ih := ih (by omega)
    have hv : 0 ≤ (n : Int) - 1 - (j + 1 : Nat) ∧ (n : Int) - 1 - (j + 1 : Nat) < (adjP n).length := by rw [adjP_length]; omega
    have ho : out (adjP n) ((n : Int) - 1 - (j + 1 : Nat)) = [(n : Int) - 1 - j] := by
      rw [adjP_length] at hv
      rw [outP hv, if_pos (by omega)]
      congr 1; omega
    have ha := dt_arc hG ht hv (u := (n : Int) - 1 - j) (by rw [ho]; simp) (by omega)
    have hne : distL (turnL (adjP n)) [(n : Int) - 1] ((n : Int) - 1 - (j + 1 : Nat)) ≠ 0 := by
      intro h
      have := (dt_zero hG ht).1 h
      simp at this; omega
    obtain ⟨u, hu, hd⟩ := dt_next hG ht hv (by omega)
    rw [ho] at hu
    simp at hu; subst hu
    omega
theorem wayP {n : Nat} (h1 : 1 ≤ n) (hn : n ≤ 100) : ∀ j : Nat, j < n → wayL (adjP n) (distL (turnL (adjP n)) [(n : Int) - 1]) j ((n : Int) - 1 - j) = (upto n).drop (n - 1 - j) := by
  intro j
  induction j with
  | zero =>
    intro _
    have : (upto n).drop (n - 1 - 0) = [(n : Int) - 1] := by
      rw [List.drop_eq_getElem_cons (by simp; omega), List.drop_of_length_le (by simp; omega), upto_get]
      congr 1; omega
    rw [this]; simp [wayL]
  | succ j ih =>
    intro hj
    have ih := ih (by omega)
    have hd := distP h1 hn j (by omega)
    have ho : out (adjP n) ((n : Int) - 1 - (j + 1 : Nat)) = [(n : Int) - 1 - j] := by
      rw [outP (by omega), if_pos (by omega)]
      congr 1; omega
    have hnx : nextL (distL (turnL (adjP n)) [(n : Int) - 1]) [(n : Int) - 1 - j] j = (n : Int) - 1 - j := by
      simp [nextL, List.find?_cons, hd]
    rw [wayL, ho, hnx, ih, List.drop_eq_getElem_cons (i := n - 1 - (j + 1)) (by simp; omega), upto_get]
    congr 2 <;> omega
theorem pathP {n : Nat} (h1 : 1 ≤ n) (hn : n ≤ 100) : pathL (adjP n) [0] [(n : Int) - 1] = (upto n, true) := by
  have hd := distP h1 hn (n - 1) (by omega)
  have hw := wayP h1 hn (n - 1) (by omega)
  rw [show (n : Int) - 1 - (n - 1 : Nat) = 0 by omega] at hd hw
  unfold pathL
  have hl0 : leastL (distL (turnL (adjP n)) [(n : Int) - 1]) [0] = 0 := by
    show (if 0 ≤ distL (turnL (adjP n)) [(n : Int) - 1] 0 ∧ ((-1 : Int) < 0 ∨ distL (turnL (adjP n)) [(n : Int) - 1] 0 < distL (turnL (adjP n)) [(n : Int) - 1] (-1)) then (0 : Int) else -1) = 0
    rw [if_pos ⟨by omega, .inl (by omega)⟩]
  simp only [hl0]
  rw [if_neg (by omega), hd, Int.toNat_natCast, hw]
  simp
theorem path_facts' {adj : List (List Int)} (hG : Gr adj) {fr to : List Int} (hf : Pts adj.length fr) (ht : Pts adj.length to) : (pathL adj fr to).2 = true ↔ ∃ x ∈ levL adj fr adj.length, x ∈ to := by
  rw [meets_iff hG ht hf]
  rcases path_cases hG ht hf with ⟨h1, h2⟩ | ⟨v, k, hv, hd, h1, h2⟩
  · rw [h1]
    constructor
    · intro h; cases h
    · rintro ⟨v, hv, h⟩; exact absurd (h2 v hv) h
  · rw [h1]
    simp only [true_iff]
    exact ⟨v, hv, by omega⟩
theorem pathPn {n : Nat} (h1 : 1 ≤ n) (hn : n ≤ 100) : (pathL (adjP n) [(n : Int) - 1] [0]).2 = decide (n = 1) := by
  have hG := grP hn
  have ht : Pts (adjP n).length [0] := pts_one (by rw [adjP_length]; omega) (by rw [adjP_length]; omega)
  have hp : Pts (adjP n).length [(n : Int) - 1] := pts_one (by rw [adjP_length]; omega) (by rw [adjP_length]; omega)
  have hok := (path_facts' hG hp ht)
  rw [fromPn h1 hn] at hok
  rw [Bool.eq_iff_iff, hok]
  simp
  omega

/-- The law's two arrays. -/
def th (H : Heap) (O A : Nat) (c : List AV) (k : Nat) (l : List Int) : Heap := upd (upd H O (some (.arr 1 24 c k))) A (some (.arr 1 3 (l.map I) l.length))
section
variable {H : Heap} {O A k k' : Nat} {c c' : List AV} {l l' : List Int}
theorem th_O (h : O ≠ A) : th H O A c k l O = some (.arr 1 24 c k) := by simp [th, h]
theorem th_A : th H O A c k l A = some (.arr 1 3 (l.map I) l.length) := by simp [th]
theorem th_setO (h : O ≠ A) : upd (th H O A c k l) O (some (.arr 1 24 c' k')) = th H O A c' k' l := by
  unfold th
  rw [upd_comm _ _ _ (fun e => h e.symm), upd_upd]
theorem th_setA {n : Nat} (hn : n = l'.length) : upd (th H O A c k l) A (some (.arr 1 3 (l'.map I) n)) = th H O A c k l' := by
  subst hn; simp [th]
end

set_option maxHeartbeats 4000000 in
theorem reachPath_ret {n : Int} : Ret Try.prog w0 11 [I n] (B true) := by
  intro H
  refine w_enter Try.func11 rfl Try.ntmps11 (ts := [2]) rfl (by simp) (by kernel_rfl) ?_
  by_cases hlo : n < 1
  · repeat' (first
      | (with_reducible refine awp_skip ?_)
      | (with_reducible refine then_any ?_)
      | (with_reducible refine then_ret ?_)
      | (with_reducible refine then_exit ?_)
      | (with_reducible refine inBlock_normal ?_)
      | (with_reducible refine inBlock_ret ?_)
      | (with_reducible refine inBlock_hit ?_)
      | (with_reducible refine inBlock_miss (by decide) ?_)
      | (with_reducible refine awp_ret ?_)
      | (with_reducible refine awp_exit ?_)
      | (with_reducible refine post_ret ?_)
      | (with_reducible refine post_normal ?_)
      | (with_reducible refine awp_block ?_)
      | (with_reducible refine v_reg [] (fun K hK => ?_))
      | (with_reducible refine v_reg1 [] (fun K hK => ?_))
      | (with_reducible refine v_draw mixed [] [] (by kernel_rfl) (fun K hK => ?_))
      | (with_reducible refine v_draw1 mixed [] [] (by kernel_rfl) (fun K hK => ?_))
      | (with_reducible refine ev_nil (hK _ _ ?_); clear hK K)
      | (with_reducible refine ed_nil (hK _ _ ?_); clear hK K)
      | ((first | with_reducible refine ev_cons (fun K' hK' => ?_) | with_reducible refine ed_cons (fun K' hK' => ?_) | (with_reducible refine ev_id ?_; refine ev_guard rfl (fun K' hK' => ?_)) | (with_reducible refine ed_id ?_; refine ed_guard rfl (fun K' hK' => ?_))); simp [hlo]; repeat' (first | (with_reducible refine hK' _ _ ?_; clear hK' K') | (with_reducible refine Ret.use fixed7_ret ?_; try simp [hlo]) | (with_reducible refine And.intro ?_ ?_) | (with_reducible intro hg) | (clear hK' K'; omega)))
      | (with_reducible refine w_cond (fun A B hA hB => ?_); simp [hlo]; repeat' (first | (with_reducible refine hA ?_; clear hA hB A B) | (with_reducible refine hB ?_; clear hA hB A B) | (with_reducible refine And.intro ?_ ?_) | (with_reducible intro hc)))
      | (with_reducible refine awp_seq ?_))
    all_goals simp
  by_cases hhi : 100 < n
  · repeat' (first
      | (with_reducible refine awp_skip ?_)
      | (with_reducible refine then_any ?_)
      | (with_reducible refine then_ret ?_)
      | (with_reducible refine then_exit ?_)
      | (with_reducible refine inBlock_normal ?_)
      | (with_reducible refine inBlock_ret ?_)
      | (with_reducible refine inBlock_hit ?_)
      | (with_reducible refine inBlock_miss (by decide) ?_)
      | (with_reducible refine awp_ret ?_)
      | (with_reducible refine awp_exit ?_)
      | (with_reducible refine post_ret ?_)
      | (with_reducible refine post_normal ?_)
      | (with_reducible refine awp_block ?_)
      | (with_reducible refine v_reg [] (fun K hK => ?_))
      | (with_reducible refine v_reg1 [] (fun K hK => ?_))
      | (with_reducible refine v_draw mixed [] [] (by kernel_rfl) (fun K hK => ?_))
      | (with_reducible refine v_draw1 mixed [] [] (by kernel_rfl) (fun K hK => ?_))
      | (with_reducible refine ev_nil (hK _ _ ?_); clear hK K)
      | (with_reducible refine ed_nil (hK _ _ ?_); clear hK K)
      | ((first | with_reducible refine ev_cons (fun K' hK' => ?_) | with_reducible refine ed_cons (fun K' hK' => ?_) | (with_reducible refine ev_id ?_; refine ev_guard rfl (fun K' hK' => ?_)) | (with_reducible refine ed_id ?_; refine ed_guard rfl (fun K' hK' => ?_))); simp [hlo, hhi]; repeat' (first | (with_reducible refine hK' _ _ ?_; clear hK' K') | (with_reducible refine Ret.use fixed7_ret ?_; try simp [hlo, hhi]) | (with_reducible refine And.intro ?_ ?_) | (with_reducible intro hg) | (clear hK' K'; omega)))
      | (with_reducible refine w_cond (fun A B hA hB => ?_); simp [hlo, hhi]; repeat' (first | (with_reducible refine hA ?_; clear hA hB A B) | (with_reducible refine hB ?_; clear hA hB A B) | (with_reducible refine And.intro ?_ ?_) | (with_reducible intro hc)))
      | (with_reducible refine awp_seq ?_))
    all_goals simp
  obtain ⟨m, rfl⟩ := Int.eq_ofNat_of_zero_le (show 0 ≤ n by omega)
  have hm1 : 1 ≤ m := by omega
  have hm2 : m ≤ 100 := by omega
  repeat' (first
    | (with_reducible refine awp_skip ?_)
    | (with_reducible refine then_any ?_)
    | (with_reducible refine then_ret ?_)
    | (with_reducible refine then_exit ?_)
    | (with_reducible refine inBlock_normal ?_)
    | (with_reducible refine inBlock_ret ?_)
    | (with_reducible refine inBlock_hit ?_)
    | (with_reducible refine inBlock_miss (by decide) ?_)
    | (with_reducible refine awp_ret ?_)
    | (with_reducible refine awp_exit ?_)
    | (with_reducible refine post_ret ?_)
    | (with_reducible refine post_normal ?_)
    | (with_reducible refine awp_block ?_)
    | (with_reducible refine v_reg [21, 22] (fun K hK => ?_))
    | (with_reducible refine v_reg1 [21, 22] (fun K hK => ?_))
    | (with_reducible refine v_draw mixed [21, 22] [] (by kernel_rfl) (fun K hK => ?_))
    | (with_reducible refine v_draw1 mixed [21, 22] [] (by kernel_rfl) (fun K hK => ?_))
    | (with_reducible refine ev_nil (hK _ _ ?_); clear hK K)
    | (with_reducible refine ed_nil (hK _ _ ?_); clear hK K)
    | ((first | with_reducible refine ev_cons (fun K' hK' => ?_) | with_reducible refine ed_cons (fun K' hK' => ?_) | (with_reducible refine ev_id ?_; refine ev_guard rfl (fun K' hK' => ?_)) | (with_reducible refine ed_id ?_; refine ed_guard rfl (fun K' hK' => ?_))); simp [hlo, hhi]; repeat' (first | (with_reducible refine hK' _ _ ?_; clear hK' K') | (with_reducible refine Ret.use fixed7_ret ?_; try simp [hlo, hhi]) | (with_reducible refine And.intro ?_ ?_) | (with_reducible intro hg) | (clear hK' K'; omega)))
    | (with_reducible refine w_cond (fun A B hA hB => ?_); simp [hlo, hhi]; repeat' (first | (with_reducible refine hA ?_; clear hA hB A B) | (with_reducible refine hB ?_; clear hA hB A B) | (with_reducible refine And.intro ?_ ?_) | (with_reducible intro hc)))
    | (with_reducible refine awp_seq ?_))
  rename_i O hO A
  have hAO : A ≠ O := by rintro rfl; simp at hg
  have hOA : O ≠ A := fun e => hAO e.symm
  have hA : H A = none := by rw [if_neg hAO] at hg; exact hg
  clear hg
  refine awp_loop (fun env h => ∃ i : Nat, i ≤ m ∧ env 5 = I i ∧ env 0 = I m ∧ env 3 = .ref O 0 i i ∧ env 4 = .ref A 0 i i ∧ h = th H O A (cellP m i) i (upto i)) (fun env _ => m - natA (env 5)) ?_ ?_
  · exact ⟨0, by omega, by simp, by simp, by simp, by simp, by simp [th, cellP, upto_zero]⟩
  rintro env h ⟨i, hi, h5, h0, h3, h4, rfl⟩
  have hnat : natA (env 5) = i := by simp [h5]
  rw [hnat]; clear hnat
  by_cases hlt : i < m
  · have hcs := cellP_succ (n := m) (k := i)
    have hcl := cellP_length m i
    have hus := upto_succ i
    have hlo' := th_O (H := H) (c := cellP m i) (k := i) (l := upto i) hOA
    by_cases hl1 : i + 1 < m
    · have hl1' : (i : Int) + 1 < m := by omega
      rw [if_pos hl1] at hcs
      have hset := th_setO (H := H) (c := cellP m i) (k := i) (l := upto i) (c' := cellP m (i + 1)) (k' := i + 1) hOA
      rw [hcs] at hset
      have hseta := th_setA (H := H) (O := O) (A := A) (c := cellP m (i + 1)) (k := i + 1) (l := upto i) (l' := upto (i + 1)) (n := i + 1) (by simp)
      rw [hcs, hus, List.map_append] at hseta
      have hla := th_A (H := H) (O := O) (A := A) (c := cellP m (i + 1)) (k := i + 1) (l := upto i)
      rw [hcs, upto_length] at hla
      repeat' (first
        | (with_reducible refine awp_skip ?_)
        | (with_reducible refine then_any ?_)
        | (with_reducible refine then_ret ?_)
        | (with_reducible refine then_exit ?_)
        | (with_reducible refine inBlock_normal ?_)
        | (with_reducible refine inBlock_ret ?_)
        | (with_reducible refine inBlock_hit ?_)
        | (with_reducible refine inBlock_miss (by decide) ?_)
        | (with_reducible refine awp_ret ?_)
        | (with_reducible refine awp_exit ?_)
        | (with_reducible refine post_ret ?_)
        | (with_reducible refine post_normal ?_)
        | (with_reducible refine awp_block ?_)
        | (with_reducible refine v_reg [] (fun K hK => ?_))
        | (with_reducible refine v_reg1 [] (fun K hK => ?_))
        | (with_reducible refine v_draw mixed [] [] (by kernel_rfl) (fun K hK => ?_))
        | (with_reducible refine v_draw1 mixed [] [] (by kernel_rfl) (fun K hK => ?_))
        | (with_reducible refine ev_nil (hK _ _ ?_); clear hK K)
        | (with_reducible refine ed_nil (hK _ _ ?_); clear hK K)
        | ((first | with_reducible refine ev_cons (fun K' hK' => ?_) | with_reducible refine ed_cons (fun K' hK' => ?_) | (with_reducible refine ev_id ?_; refine ev_guard rfl (fun K' hK' => ?_)) | (with_reducible refine ed_id ?_; refine ed_guard rfl (fun K' hK' => ?_))); simp [h5, h0, h3, h4, hlt, hl1', hlo', hcl, hset, hla, hseta]; repeat' (first | (with_reducible refine hK' _ _ ?_; clear hK' K') | (with_reducible refine And.intro ?_ ?_) | (with_reducible intro hg) | (clear hK' K'; omega)))
        | (with_reducible refine w_cond (fun A B hA hB => ?_); simp [h5, h0, h3, h4, hlt, hl1', hlo', hcl, hset, hla, hseta]; repeat' (first | (with_reducible refine hA ?_; clear hA hB A B) | (with_reducible refine hB ?_; clear hA hB A B) | (with_reducible refine And.intro ?_ ?_) | (with_reducible intro hc)))
        | (with_reducible refine awp_seq ?_))
      exact ⟨⟨i + 1, by omega, by simp, by simp [h0], by simp, by simp, by rw [hcs, hus, ← hseta]; simp⟩, by simp; omega⟩
    · have hl1' : ¬ (i : Int) + 1 < m := by omega
      rw [if_neg hl1] at hcs
      have hset := th_setO (H := H) (c := cellP m i) (k := i) (l := upto i) (c' := cellP m (i + 1)) (k' := i + 1) hOA
      rw [hcs] at hset
      have hseta := th_setA (H := H) (O := O) (A := A) (c := cellP m (i + 1)) (k := i + 1) (l := upto i) (l' := upto (i + 1)) (n := i + 1) (by simp)
      rw [hcs, hus, List.map_append] at hseta
      have hla := th_A (H := H) (O := O) (A := A) (c := cellP m (i + 1)) (k := i + 1) (l := upto i)
      rw [hcs, upto_length] at hla
      repeat' (first
        | (with_reducible refine awp_skip ?_)
        | (with_reducible refine then_any ?_)
        | (with_reducible refine then_ret ?_)
        | (with_reducible refine then_exit ?_)
        | (with_reducible refine inBlock_normal ?_)
        | (with_reducible refine inBlock_ret ?_)
        | (with_reducible refine inBlock_hit ?_)
        | (with_reducible refine inBlock_miss (by decide) ?_)
        | (with_reducible refine awp_ret ?_)
        | (with_reducible refine awp_exit ?_)
        | (with_reducible refine post_ret ?_)
        | (with_reducible refine post_normal ?_)
        | (with_reducible refine awp_block ?_)
        | (with_reducible refine v_reg [] (fun K hK => ?_))
        | (with_reducible refine v_reg1 [] (fun K hK => ?_))
        | (with_reducible refine v_draw mixed [] [] (by kernel_rfl) (fun K hK => ?_))
        | (with_reducible refine v_draw1 mixed [] [] (by kernel_rfl) (fun K hK => ?_))
        | (with_reducible refine ev_nil (hK _ _ ?_); clear hK K)
        | (with_reducible refine ed_nil (hK _ _ ?_); clear hK K)
        | ((first | with_reducible refine ev_cons (fun K' hK' => ?_) | with_reducible refine ed_cons (fun K' hK' => ?_) | (with_reducible refine ev_id ?_; refine ev_guard rfl (fun K' hK' => ?_)) | (with_reducible refine ed_id ?_; refine ed_guard rfl (fun K' hK' => ?_))); simp [h5, h0, h3, h4, hlt, hl1', hlo', hcl, hset, hla, hseta]; repeat' (first | (with_reducible refine hK' _ _ ?_; clear hK' K') | (with_reducible refine And.intro ?_ ?_) | (with_reducible intro hg) | (clear hK' K'; omega)))
        | (with_reducible refine w_cond (fun A B hA hB => ?_); simp [h5, h0, h3, h4, hlt, hl1', hlo', hcl, hset, hla, hseta]; repeat' (first | (with_reducible refine hA ?_; clear hA hB A B) | (with_reducible refine hB ?_; clear hA hB A B) | (with_reducible refine And.intro ?_ ?_) | (with_reducible intro hc)))
        | (with_reducible refine awp_seq ?_))
      exact ⟨⟨i + 1, by omega, by simp, by simp [h0], by simp, by simp, by rw [hcs, hus, ← hseta]; simp⟩, by simp; omega⟩
  · have : i = m := by omega
    subst this
    have hG := grP hm2
    have hlA := th_A (H := H) (O := O) (A := A) (c := cellP i i) (k := i) (l := upto i)
    rw [upto_length] at hlA
    refine awp_freeze 4 h4 hlA ?_
    refine awp_freeze 3 (r := O) (off := 0) (len := i) (top := i) (by simp [h3]) (by rw [upd_ne _ _ _ hOA]; exact th_O hOA) ?_
    refine awp_wks 3 (b := rows (adjP i)) (by rw [upd_same, cut_all (by rw [cellP_length]; omega)]; exact wksP i) fun env' he he2 => ?_
    have g0 : env' 0 = I i := by rw [he2 _ (by decide)]; simp [h0]
    have g4 : env' 4 = ints (upto i) := by rw [he2 _ (by decide)]; simp [cut_upto]
    have g5 : env' 5 = I i := by rw [he2 _ (by decide)]; simp [h5]
    have hsub : Sub H (upd (upd (th H O A (cellP i i) i (upto i)) A none) O none) := by
      refine (Sub.upd ?_ hO _)
      refine Sub.upd ?_ hA _
      exact ((Sub.refl H).upd hO _).upd hA _
    refine AWP.sub hsub ?_
    clear hsub hlA h4 h3 h0 h5 he2
    have hal := adjP_length i
    have hoa : okLen (adjP i) := by rw [okLen, hal]; omega
    have hoi : ∀ p ∈ adjP i, okLen p := fun p hp => by have := (hG.pts p hp).length; rw [hal] at this; rw [okLen]; omega
    have hmg := gr_iff.2 hG
    have hp0 := pts_iff.2 (pts_one (n := (adjP i).length) (v := 0) (by rw [hal]; omega) (by rw [hal]; omega))
    have hpn := pts_iff.2 (pts_one (n := (adjP i).length) (v := (i : Int) - 1) (by rw [hal]; omega) (by rw [hal]; omega))
    have c1 := path_reach_ret (w0 := w0) (fr := [0]) (to := [(i : Int) - 1]) hoa hoi (by simp) (by simp)
    have c2 := path_reach_ret (w0 := w0) (fr := [(i : Int) - 1]) (to := [0]) hoa hoi (by simp) (by simp)
    have e1 : pathA (adjP i) [0] [(i : Int) - 1] = (upto i, true) := by rw [← pathP hm1 hm2]; simp [pathA, hmg, hp0, hpn]
    have e2 : (pathA (adjP i) [(i : Int) - 1] [0]).2 = decide (i = 1) := by rw [← pathPn hm1 hm2]; simp [pathA, hmg, hp0, hpn]
    rw [e1] at c1
    rw [e2] at c2
    generalize (pathA (adjP i) [(i : Int) - 1] [0]).1 = pp at *
    have c3 := from_ret (w0 := w0) (l := [0]) hoa hoi (by simp)
    have c4 := from_ret (w0 := w0) (l := [(i : Int) - 1]) hoa hoi (by simp)
    have e3 : fromL (adjP i) [0] = upto i := by rw [← fromP0 hm1 hm2]; simp [fromL, hmg, hp0]
    have e4 : fromL (adjP i) [(i : Int) - 1] = [(i : Int) - 1] := by
      have := fromPn hm1 hm2
      simp [fromL, hmg, hpn, this]
    rw [e3] at c3
    rw [e4] at c4
    have hou : okLen (upto i) := by rw [okLen, upto_length]; omega
    have c5 := same_ret (w0 := w0) hou hou
    have c6 := same_ret (w0 := w0) (a := [(i : Int) - 1]) (b := [(i : Int) - 1]) (by simp) (by simp)
    have hul := upto_length i
    generalize upto i = all at *
    generalize adjP i = adj at *
    have hi1 : ((i : Int) = 1) = (i = 1) := by simp; omega
    repeat' (first
      | (with_reducible refine awp_skip ?_)
      | (with_reducible refine then_any ?_)
      | (with_reducible refine then_ret ?_)
      | (with_reducible refine then_exit ?_)
      | (with_reducible refine inBlock_normal ?_)
      | (with_reducible refine inBlock_ret ?_)
      | (with_reducible refine inBlock_hit ?_)
      | (with_reducible refine inBlock_miss (by decide) ?_)
      | (with_reducible refine awp_ret ?_)
      | (with_reducible refine awp_exit ?_)
      | (with_reducible refine post_ret ?_)
      | (with_reducible refine post_normal ?_)
      | (with_reducible refine awp_block ?_)
      | (with_reducible refine v_reg [] (fun K hK => ?_))
      | (with_reducible refine v_reg1 [] (fun K hK => ?_))
      | (with_reducible refine v_draw mixed [] [] (by kernel_rfl) (fun K hK => ?_))
      | (with_reducible refine v_draw1 mixed [] [] (by kernel_rfl) (fun K hK => ?_))
      | (with_reducible refine ev_nil (hK _ _ ?_); clear hK K)
      | (with_reducible refine ed_nil (hK _ _ ?_); clear hK K)
      | ((first | with_reducible refine ev_cons (fun K' hK' => ?_) | with_reducible refine ed_cons (fun K' hK' => ?_) | (with_reducible refine ev_id ?_; refine ev_guard rfl (fun K' hK' => ?_)) | (with_reducible refine ed_id ?_; refine ed_guard rfl (fun K' hK' => ?_))); simp [g0, g4, g5, he]; repeat' (first | (with_reducible refine hK' _ _ ?_; clear hK' K') | ((with_reducible refine Ret.use_eq c1 ?_ ?_; (· simp [ints])); try simp [g0, g4, g5, he]) | ((with_reducible refine Ret.use_eq c2 ?_ ?_; (· simp [ints])); try simp [g0, g4, g5, he]) | ((with_reducible refine Ret.use_eq c3 ?_ ?_; (· simp [ints])); try simp [g0, g4, g5, he]) | ((with_reducible refine Ret.use_eq c4 ?_ ?_; (· simp [ints])); try simp [g0, g4, g5, he]) | ((with_reducible refine Ret.use_eq c5 ?_ ?_; (· simp [ints])); try simp [g0, g4, g5, he]) | ((with_reducible refine Ret.use_eq c6 ?_ ?_; (· simp [ints])); try simp [g0, g4, g5, he]) | (with_reducible refine And.intro ?_ ?_) | (with_reducible intro hg) | (clear hK' K'; omega)))
      | (with_reducible refine w_cond (fun A B hA hB => ?_); simp [g0, g4, g5, he]; repeat' (first | (with_reducible refine hA ?_; clear hA hB A B) | (with_reducible refine hB ?_; clear hA hB A B) | (with_reducible refine And.intro ?_ ?_) | (with_reducible intro hc)))
      | (with_reducible refine awp_seq ?_))
    all_goals first | (exfalso; omega) | simp
end Go.Am
