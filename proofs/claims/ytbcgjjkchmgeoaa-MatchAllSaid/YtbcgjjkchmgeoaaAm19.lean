/- The abstract machine, part 19: rows of numbers in blocks of their own, held by another block's cells. -/
import Derived.Test.YtbcgjjkchmgeoaaAm18
namespace Go.Am
open Go
set_option linter.unusedVariables false
set_option linter.unusedSimpArgs false

section
variable {P : Program} {w0 : World} {nt : Nat}

/-- Rows of numbers in blocks of their own, held by the cells of block O. -/
structure Rows (e : TypeId) (H h : Heap) (O : Nat) (parts : List (List Int)) (cells : List AV) : Prop where
  len : cells.length = parts.length
  out : h O = some (.arr 1 e cells parts.length)
  row : ∀ (i : Nat) (p : List Int), parts[i]? = some p → (p = [] ∧ cells[i]? = some (.sc (.slice none 0 0))) ∨
    ∃ r, cells[i]? = some (.ref r 0 p.length p.length) ∧ h r = some (.arr 1 3 (p.map I) p.length) ∧ H r = none ∧ r ≠ O
  dis : ∀ (i j r n m n' m' : Nat), cells[i]? = some (.ref r 0 n m) → cells[j]? = some (.ref r 0 n' m') → i = j
  sub : Sub H h
  new : H O = none

theorem ints_nil {F : Ft} {M : Mt} {cv : Value} (h : VR F M (.sc (.slice none 0 0)) cv) : VR F M (ints []) cv := by
  have := h.sc_inv
  subst this
  exact .sl0

/-- A slice of a block, and a word, are told by no list. -/
theorem VR.anyF {F F' : Ft} {M : Mt} {av : AV} {cv : Value} (h : VR F M av cv) (ha : (∃ v, av = .sc v) ∨ ∃ r off len top, av = .ref r off len top) : VR F' M av cv := by
  rcases ha with ⟨v, rfl⟩ | ⟨r, off, len, top, rfl⟩
  · have := h.sc_inv; subst this; exact .sc _
  · cases h with
    | ref hM hl hc hz => exact .ref hM hl hc hz

theorem Rows.flat {e : TypeId} {H h : Heap} {O : Nat} {parts : List (List Int)} {cells : List AV} (R : Rows e H h O parts cells) {i : Nat} {av : AV} (hi : cells[i]? = some av) : (∃ v, av = .sc v) ∨ ∃ r off len top, av = .ref r off len top := by
  have hlt : i < parts.length := by rw [← R.len]; exact (List.getElem?_eq_some_iff.1 hi).1
  rcases R.row i parts[i] (by simp [hlt]) with ⟨_, hc⟩ | ⟨r, hc, _⟩
  · rw [hc] at hi; cases hi; exact .inl ⟨_, rfl⟩
  · rw [hc] at hi; cases hi; exact .inr ⟨_, _, _, _, rfl⟩

theorem Rows.freeze {e : TypeId} {H h : Heap} {O : Nat} {parts : List (List Int)} {cells : List AV} (R : Rows e H h O parts cells) {w : World} {F : Ft} {M : Mt} (rel : Rel w0 w F M h) :
    ∃ F', Ext F F' M M ∧ Rel w0 w F' M H ∧ ∀ cv, VR F M (.ref O 0 parts.length parts.length) cv → VR F' M (rows parts) cv := by
  have key : ∀ k, k ≤ parts.length → ∃ Fk hk, Ext F Fk M M ∧ Rel w0 w Fk M hk ∧ (∀ b, hk b = h b ∨ (∃ i n m, i < k ∧ cells[i]? = some (.ref b 0 n m) ∧ hk b = none)) ∧
      ∀ (i : Nat) (av : AV) (p : List Int), i < k → cells[i]? = some av → parts[i]? = some p → ∀ cv, VR Fk M av cv → VR Fk M (ints p) cv := by
    intro k
    induction k with
    | zero => exact fun _ => ⟨F, h, Ext.refl _ _, rel, fun b => .inl rfl, fun i av p hi => absurd hi (by omega)⟩
    | succ k ih =>
      intro hk
      obtain ⟨Fk, hk', x, relk, hb, hv⟩ := ih (by omega)
      have hpk : parts[k]? = some parts[k] := by simp [show k < parts.length by omega]
      rcases R.row k _ hpk with ⟨h0, hc⟩ | ⟨r, hc, hr, hHr, hrO⟩
      · refine ⟨Fk, hk', x, relk, fun b => ?_, ?_⟩
        · rcases hb b with h | ⟨i, n, m, hi, a⟩
          · exact .inl h
          · exact .inr ⟨i, n, m, by omega, a⟩
        · intro i av p hi ha hp cv hcv
          by_cases e : i = k
          · subst e
            rw [hc] at ha; cases ha
            rw [hpk] at hp; cases hp
            rw [h0]
            exact ints_nil hcv
          · exact hv i av p (by omega) ha hp cv hcv
      · have hkr : hk' r = some (.arr 1 3 (parts[k].map I) parts[k].length) := by
          rcases hb r with h | ⟨i, n, m, hi, a, _⟩
          · rw [h]; exact hr
          · exact absurd (R.dis i k r _ _ _ _ a hc) (by omega)
        obtain ⟨F2, x2, rel2, hv2⟩ := relk.freezeArr hkr
        refine ⟨F2, upd hk' r none, x.trans x2, rel2, fun b => ?_, ?_⟩
        · by_cases e : b = r
          · subst e
            exact .inr ⟨k, _, _, by omega, hc, upd_same _ _ _⟩
          · rw [upd_ne _ _ _ e]
            rcases hb b with h | ⟨i, n, m, hi, a⟩
            · exact .inl h
            · exact .inr ⟨i, n, m, by omega, a⟩
        · intro i av p hi ha hp cv hcv
          by_cases e : i = k
          · subst e
            rw [hc] at ha; cases ha
            rw [hpk] at hp; cases hp
            have := hv2 _ _ _ (hcv.anyF (R.flat hc))
            rwa [cut_map] at this
          · exact (hv i av p (by omega) ha hp cv (hcv.anyF (R.flat ha))).mono x2
  obtain ⟨Fk, hk, x, relk, hb, hv⟩ := key parts.length (Nat.le_refl _)
  have hO : hk O = some (.arr 1 e cells parts.length) := by
    rcases hb O with h | ⟨i, n, m, hi, a, _⟩
    · rw [h]; exact R.out
    · exfalso
      have hp : parts[i]? = some parts[i] := by simp [hi]
      rcases R.row i _ hp with ⟨_, hc⟩ | ⟨r, hc, _, _, hrO⟩
      · rw [hc] at a; cases a
      · rw [hc] at a; cases a; exact hrO rfl
  -- the cells, told by what the rows are
  obtain ⟨hcl, hes, a, cap, hM, hn, hmax, hz⟩ := relk.blk O _ hO
  have fin : ∀ F', Ext Fk F' M M → Rel w0 w F' M (upd hk O none) → Rel w0 w F' M H := by
    intro F' x' rel'
    refine rel'.sub fun r k hr => ?_
    have hrO : r ≠ O := fun e => by subst e; rw [R.new] at hr; cases hr
    rw [upd_ne _ _ _ hrO]
    rcases hb r with h | ⟨i, n, m, hi, a, _⟩
    · rw [h]; exact R.sub r k hr
    · exfalso
      have hp : parts[i]? = some parts[i] := by simp [hi]
      rcases R.row i _ hp with ⟨_, hc⟩ | ⟨r', hc, _, hn, _⟩
      · rw [hc] at a; cases a
      · rw [hc] at a; cases a; rw [hn] at hr; cases hr
  have hmapl : (parts.map ints).length = cells.length := by rw [List.length_map, R.len]
  obtain ⟨F', x', rel', hv'⟩ := relk.freezeAs (cells' := parts.map ints) hO hmapl fun i av av' h1 h2 => by
    rw [List.getElem?_map] at h2
    cases hp : parts[i]? with
    | none => rw [hp] at h2; cases h2
    | some p =>
      rw [hp] at h2; cases h2
      exact ⟨rfl, hv i av p (List.getElem?_eq_some_iff.1 hp).1 h1 hp⟩
  refine ⟨F', x.trans x', fin F' x' rel', fun cv hcv => ?_⟩
  have := hv' _ _ _ (hcv.anyF (F' := Fk) (.inr ⟨_, _, _, _, rfl⟩))
  rwa [cut_map] at this

theorem awp_rows {c : Code} {Q : Exit → Env → Heap → Prop} {env : Env} {e : TypeId} {H h : Heap} {O : Nat} {parts : List (List Int)} {cells : List AV} (s : Nat) (R : Rows e H h O parts cells)
    (hs : env s = .ref O 0 parts.length parts.length) (k : ∀ env', env' s = rows parts → (∀ i, i ≠ s → env' i = env i) → AWP P w0 nt c Q env' H) : AWP P w0 nt c Q env h := by
  intro w F M a rel er
  obtain ⟨F', x, rel', hv⟩ := R.freeze rel
  have er' : EnvR F' M nt (upd env s (rows parts)) a := by
    have := er.mono x
    refine ⟨this.size, this.defers, fun i => ?_⟩
    by_cases hi : i = s
    · subst hi
      rw [upd_same]
      have := er.slot i
      rw [hs] at this
      exact hv _ this
    · rw [upd_ne _ _ _ hi]; exact this.slot i
  exact Code.wp_mono (fun _ _ _ p => p.mono x fun _ _ _ q => q) (k _ (upd_same _ _ _) (fun i hi => upd_ne _ _ _ hi) w F' M a rel' er')

theorem rows_none {e : TypeId} {H : Heap} {O : Nat} (hO : H O = none) : Rows e H (upd H O (some (.arr 1 e [] 0))) O [] [] :=
  ⟨rfl, upd_same _ _ _, fun i p h => by simp at h, fun i j r n m n' m' h => by simp at h, sub_new hO, hO⟩

/-- One row more, an empty one. -/
theorem Rows.more {e : TypeId} {H h : Heap} {O : Nat} {parts : List (List Int)} {cells : List AV} (R : Rows e H h O parts cells) :
    Rows e H (upd h O (some (.arr 1 e (cells ++ [.sc (.slice none 0 0)]) (parts.length + 1)))) O (parts ++ [[]]) (cells ++ [.sc (.slice none 0 0)]) := by
  have hl := R.len
  refine ⟨by simp [hl], by simp [upd_same], fun i p hp => ?_, fun i j r n m n' m' hi hj => ?_, fun r k hr => ?_, R.new⟩
  · rw [List.getElem?_append] at hp ⊢
    by_cases hi : i < parts.length
    · rw [if_pos hi] at hp
      rw [if_pos (by omega)]
      rcases R.row i p hp with h | ⟨r, hc, hr, hn, hne⟩
      · exact .inl h
      · exact .inr ⟨r, hc, by rw [upd_ne _ _ _ hne]; exact hr, hn, hne⟩
    · rw [if_neg hi] at hp
      rw [if_neg (by omega), hl]
      have : i - parts.length = 0 := by
        have := (List.getElem?_eq_some_iff.1 hp).1
        simp at this; omega
      rw [this] at hp ⊢
      simp at hp
      exact .inl ⟨hp, rfl⟩
  · have f : ∀ (i n m : Nat), (cells ++ [AV.sc (.slice none 0 0)])[i]? = some (.ref r 0 n m) → cells[i]? = some (.ref r 0 n m) := by
      intro i n m h
      rw [List.getElem?_append] at h
      split at h
      · exact h
      · rename_i hn
        have := (List.getElem?_eq_some_iff.1 h).1
        simp at this
        rw [this] at h; simp at h
    exact R.dis i j r _ _ _ _ (f _ _ _ hi) (f _ _ _ hj)
  · have hrO : r ≠ O := fun e => by subst e; rw [R.new] at hr; cases hr
    rw [upd_ne _ _ _ hrO]; exact R.sub r k hr

/-- A row grows: in its own block r, or in a new one. -/
theorem Rows.push {e : TypeId} {H h : Heap} {O i r : Nat} {parts : List (List Int)} {cells : List AV} {p : List Int} {v : Int} (R : Rows e H h O parts cells) (hp : parts[i]? = some p)
    (hr : (p = [] ∧ h r = none) ∨ cells[i]? = some (.ref r 0 p.length p.length)) :
    Rows e H (upd (upd h r (some (.arr 1 3 (p.map I ++ [I v]) (p.length + 1)))) O (some (.arr 1 e (cells.set i (.ref r 0 (p.length + 1) (p.length + 1))) parts.length))) O (parts.set i (p ++ [v])) (cells.set i (.ref r 0 (p.length + 1) (p.length + 1))) := by
  have hl := R.len
  have hi : i < parts.length := (List.getElem?_eq_some_iff.1 hp).1
  have hic : i < cells.length := by omega
  -- r is no other row's block, not O, and none of H's
  have hrO : r ≠ O := by
    rcases hr with ⟨_, hn⟩ | hc
    · intro e; subst e; rw [R.out] at hn; cases hn
    · rcases R.row i p hp with ⟨_, hc'⟩ | ⟨r', hc', _, _, hne⟩
      · rw [hc] at hc'; cases hc'
      · rw [hc] at hc'; cases hc'; exact hne
  have hrH : H r = none := by
    rcases hr with ⟨_, hn⟩ | hc
    · cases e : H r with
      | none => rfl
      | some k => rw [R.sub r k e] at hn; cases hn
    · rcases R.row i p hp with ⟨_, hc'⟩ | ⟨r', hc', _, hn, _⟩
      · rw [hc] at hc'; cases hc'
      · rw [hc] at hc'; cases hc'; exact hn
  have hoth : ∀ j n m, j ≠ i → cells[j]? ≠ some (.ref r 0 n m) := by
    intro j n m hj hc
    rcases hr with ⟨_, hn⟩ | hc'
    · have hjl : j < parts.length := by rw [← hl]; exact (List.getElem?_eq_some_iff.1 hc).1
      rcases R.row j parts[j] (by simp [hjl]) with ⟨_, h2⟩ | ⟨r', h2, h3, _, _⟩
      · rw [hc] at h2; cases h2
      · rw [hc] at h2; cases h2; rw [hn] at h3; cases h3
    · exact hj (R.dis j i r _ _ _ _ hc hc')
  refine ⟨by simp [hl], by rw [upd_same, List.length_set], fun j q hq => ?_, fun j k s n m n' m' hj hk => ?_, fun s k hs => ?_, R.new⟩
  · rw [List.getElem?_set] at hq ⊢
    by_cases e : i = j
    · subst e
      rw [if_pos rfl, if_pos hi] at hq
      cases hq
      right
      refine ⟨r, by simp [hic], ?_, hrH, hrO⟩
      rw [upd_ne _ _ _ hrO, upd_same]
      simp
    · rw [if_neg e] at hq
      rw [if_neg e]
      rcases R.row j q hq with h | ⟨s, hc, hs, hn, hne⟩
      · exact .inl h
      · have hsr : s ≠ r := fun e' => by subst e'; exact hoth j _ _ (fun e2 => e e2.symm) hc
        exact .inr ⟨s, hc, by rw [upd_ne _ _ _ hne, upd_ne _ _ _ hsr]; exact hs, hn, hne⟩
  · rw [List.getElem?_set] at hj hk
    by_cases e1 : i = j
    · subst e1
      rw [if_pos rfl, if_pos hic] at hj
      cases hj
      by_cases e2 : i = k
      · exact e2
      · rw [if_neg e2] at hk; exact absurd hk (hoth k _ _ (fun e => e2 e.symm))
    · rw [if_neg e1] at hj
      by_cases e2 : i = k
      · subst e2
        rw [if_pos rfl, if_pos hic] at hk
        cases hk
        exact absurd hj (hoth j _ _ (fun e => e1 e.symm))
      · rw [if_neg e2] at hk
        exact R.dis j k s _ _ _ _ hj hk
  · have h1 : s ≠ O := fun e => by subst e; rw [R.new] at hs; cases hs
    have h2 : s ≠ r := fun e => by subst e; rw [hrH] at hs; cases hs
    rw [upd_ne _ _ _ h1, upd_ne _ _ _ h2]; exact R.sub s k hs

/-- Another block, a map, changes. -/
theorem Rows.other {e : TypeId} {H h : Heap} {O m : Nat} {parts : List (List Int)} {cells : List AV} {k' : Option Blk} (R : Rows e H h O parts cells) (hm : ∀ es e c n, h m ≠ some (.arr es e c n)) (hH : H m = Option.none) :
    Rows e H (upd h m k') O parts cells := by
  have hO : O ≠ m := fun e => by subst e; exact hm _ _ _ _ R.out
  refine ⟨R.len, by rw [upd_ne _ _ _ hO]; exact R.out, fun i p hp => ?_, R.dis, fun s k hs => ?_, R.new⟩
  · rcases R.row i p hp with h | ⟨r, hc, hr, hn, hne⟩
    · exact .inl h
    · have : r ≠ m := fun e => by subst e; exact hm _ _ _ _ hr
      exact .inr ⟨r, hc, by rw [upd_ne _ _ _ this]; exact hr, hn, hne⟩
  · have : s ≠ m := fun e => by subst e; rw [hH] at hs; cases hs
    rw [upd_ne _ _ _ this]; exact R.sub s k hs

theorem kvGet_set (kv : List (Int × Int)) (n x y : Int) : kvGet (kvSet kv n x) y = if y = n then some x else kvGet kv y := by
  induction kv with
  | nil => simp [kvSet, kvGet]
  | cons p r ih =>
    simp only [kvSet]
    by_cases e : n = p.1
    · rw [if_pos e]
      simp only [kvGet, ← e]
      split <;> rfl
    · rw [if_neg e]
      simp only [kvGet, ih]
      by_cases e2 : y = p.1
      · rw [if_pos e2, if_neg (by omega), if_pos e2]
      · rw [if_neg e2, if_neg e2]
end
end Go.Am
