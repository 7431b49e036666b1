/- Plain law: the algebra of sets. -/
/- Plain law: matchings, one step of the search. -/
/- Plain law: matchings, greatest ones, covers. -/
/- Plain law: what is reached from those who have none. -/
/- Plain law: one more on the left. -/
import Derived.Test.YtkgcmgbndapjcaaB3
namespace Go.Am
set_option linter.unusedVariables false

section
variable {a b c : List Int} (ha : IsSet a) (hb : IsSet b) (hc : IsSet c)
include ha hb
theorem IsSet.union : IsSet (unionL a b) := (unionL_spec ha hb).1
theorem IsSet.meet : IsSet (meetL a b) := (meetL_spec ha hb).1
theorem IsSet.minus : IsSet (minusL a b) := (minusL_spec ha hb).1
theorem mem_unionL {x : Int} : x ∈ unionL a b ↔ x ∈ a ∨ x ∈ b := (unionL_spec ha hb).2 x
theorem mem_meetL {x : Int} : x ∈ meetL a b ↔ x ∈ a ∧ x ∈ b := (meetL_spec ha hb).2 x
theorem mem_minusL {x : Int} : x ∈ minusL a b ↔ x ∈ a ∧ x ∉ b := (minusL_spec ha hb).2 x

theorem union_comm' : unionL b a = unionL a b := (hb.union ha).ext (ha.union hb) fun x => by rw [mem_unionL hb ha, mem_unionL ha hb]; exact Or.comm
theorem meet_comm' : meetL b a = meetL a b := (hb.meet ha).ext (ha.meet hb) fun x => by rw [mem_meetL hb ha, mem_meetL ha hb]; exact And.comm
include hc
theorem union_assoc' : unionL (unionL a b) c = unionL a (unionL b c) := ((ha.union hb).union hc).ext (ha.union (hb.union hc)) fun x => by
  rw [mem_unionL (ha.union hb) hc, mem_unionL ha hb, mem_unionL ha (hb.union hc), mem_unionL hb hc]; exact or_assoc
theorem meet_assoc' : meetL (meetL a b) c = meetL a (meetL b c) := ((ha.meet hb).meet hc).ext (ha.meet (hb.meet hc)) fun x => by
  rw [mem_meetL (ha.meet hb) hc, mem_meetL ha hb, mem_meetL ha (hb.meet hc), mem_meetL hb hc]; exact and_assoc
theorem meet_union' : meetL (unionL a b) c = unionL (meetL a c) (meetL b c) := ((ha.union hb).meet hc).ext ((ha.meet hc).union (hb.meet hc)) fun x => by
  rw [mem_meetL (ha.union hb) hc, mem_unionL ha hb, mem_unionL (ha.meet hc) (hb.meet hc), mem_meetL ha hc, mem_meetL hb hc]; exact or_and_right
theorem minus_union' : minusL (unionL a b) c = unionL (minusL a c) (minusL b c) := ((ha.union hb).minus hc).ext ((ha.minus hc).union (hb.minus hc)) fun x => by
  rw [mem_minusL (ha.union hb) hc, mem_unionL ha hb, mem_unionL (ha.minus hc) (hb.minus hc), mem_minusL ha hc, mem_minusL hb hc]; exact or_and_right
omit hc
theorem cut_union' : unionL (minusL a b) (meetL a b) = a := ((ha.minus hb).union (ha.meet hb)).ext ha fun x => by
  rw [mem_unionL (ha.minus hb) (ha.meet hb), mem_minusL ha hb, mem_meetL ha hb]
  by_cases h : x ∈ b <;> simp [h]
theorem meet_sub' : meetL (meetL a b) a = meetL a b := ((ha.meet hb).meet ha).ext (ha.meet hb) fun x => by
  rw [mem_meetL (ha.meet hb) ha, mem_meetL ha hb]
  by_cases h : x ∈ a <;> simp [h]
theorem sub_union' : meetL a (unionL a b) = a := (ha.meet (ha.union hb)).ext ha fun x => by
  rw [mem_meetL ha (ha.union hb), mem_unionL ha hb]
  by_cases h : x ∈ a <;> simp [h]
theorem meet_minus' : meetL (meetL a b) (minusL a b) = [] := ((ha.meet hb).meet (ha.minus hb)).ext .nil fun x => by
  rw [mem_meetL (ha.meet hb) (ha.minus hb), mem_minusL ha hb, mem_meetL ha hb]
  by_cases h : x ∈ b <;> simp [h]
theorem meet_union_minus' : unionL (meetL a b) (minusL a b) = a := ((ha.meet hb).union (ha.minus hb)).ext ha fun x => by
  rw [mem_unionL (ha.meet hb) (ha.minus hb), mem_minusL ha hb, mem_meetL ha hb]
  by_cases h : x ∈ b <;> simp [h]

theorem len_meet' : (meetL a b).length + (minusL a b).length = a.length := by
  rw [meetL_eq ha hb, minusL_eq ha hb]
  clear ha hb
  induction a with
  | nil => rfl
  | cons x a ih => by_cases h : x ∈ b <;> simp [h] <;> omega
theorem len_union' : (unionL a b).length = (minusL a b).length + b.length := by
  have h : (unionL a b).Perm (minusL a b ++ b) := by
    rw [List.perm_ext_iff_of_nodup (ha.union hb).nodup]
    · intro x
      rw [mem_unionL ha hb, List.mem_append, mem_minusL ha hb]
      by_cases h : x ∈ b <;> simp [h]
    · rw [List.nodup_append]
      refine ⟨(ha.minus hb).nodup, hb.nodup, fun x hx y hy e => ?_⟩
      subst e
      exact ((mem_minusL ha hb).1 hx).2 hy
  rw [h.length_eq, List.length_append]
theorem meet_len_le : (meetL a b).length ≤ a.length := by have := len_meet' ha hb; omega
theorem minus_len_le : (minusL a b).length ≤ a.length := by have := len_meet' ha hb; omega
theorem union_len_le : (unionL a b).length ≤ a.length + b.length := by have := len_union' ha hb; have := minus_len_le ha hb; omega
theorem meet_all' : decide ((meetL a b).length = a.length) = a.all fun x => decide (x ∈ b) := by
  rw [Bool.eq_iff_iff, decide_eq_true_iff, List.all_eq_true, meetL_eq ha hb]
  rw [List.length_filter_eq_length_iff]
end

theorem union_R (a b : List Int) : unionL a b = unionR a b := by
  cases ha : risesB (-1) a with
  | false => simp [unionL, unionR, ha]
  | true =>
    cases hb : risesB (-1) b with
    | false => simp [unionL, unionR, ha, hb]
    | true => exact unionL_eq (rises_iff.1 ha) (rises_iff.1 hb)
theorem meet_R (a b : List Int) : (if risesB (-1) a && risesB (-1) b then a.filter (fun x => decide (x ∈ b)) else []) = meetL a b := by
  cases ha : risesB (-1) a with
  | false => simp [meetL, ha]
  | true =>
    cases hb : risesB (-1) b with
    | false => simp [meetL, ha, hb]
    | true => simpa using (meetL_eq (rises_iff.1 ha) (rises_iff.1 hb)).symm
theorem minus_R (a b : List Int) : (if risesB (-1) a && risesB (-1) b then a.filter (fun x => !decide (x ∈ b)) else []) = minusL a b := by
  cases ha : risesB (-1) a with
  | false => simp [minusL, ha]
  | true =>
    cases hb : risesB (-1) b with
    | false => simp [minusL, ha, hb]
    | true => simpa using (minusL_eq (rises_iff.1 ha) (rises_iff.1 hb)).symm
theorem sub_R (a b : List Int) : (risesB (-1) a && risesB (-1) b && a.all fun x => decide (x ∈ b)) = (risesB (-1) a && risesB (-1) b && decide ((meetL a b).length = a.length)) := by
  cases ha : risesB (-1) a with
  | false => simp
  | true =>
    cases hb : risesB (-1) b with
    | false => simp
    | true => rw [meet_all' (rises_iff.1 ha) (rises_iff.1 hb)]
end Go.Am

namespace Go.Am
set_option linter.unusedVariables false

/-- With whom one on the left may go. -/
def nbM (adj : List (List Int)) (i : Int) : List Int := adj.getD i.toNat []
theorem nbM_get {adj : List (List Int)} {i : Nat} (h : i < adj.length) : nbM adj i = adj[i] := by simp [nbM, h]
theorem nbM_toNat {adj : List (List Int)} {i : Int} (h : i.toNat < adj.length) : adj[i.toNat] = nbM adj i := by simp [nbM, h]

/-- The two sides may be. -/
structure GrM (m : Nat) (adj : List (List Int)) : Prop where
  nle : adj.length ≤ 64
  mle : m ≤ 64
  set : ∀ l ∈ adj, IsSet l
  lt : ∀ l ∈ adj, ∀ x ∈ l, 0 ≤ x ∧ x < m
theorem GrM.nb {m : Nat} {adj : List (List Int)} (h : GrM m adj) {i x : Int} (hx : x ∈ nbM adj i) : 0 ≤ x ∧ x < m := by
  unfold nbM at hx
  rw [List.getD_eq_getElem?_getD] at hx
  cases hl : adj[i.toNat]? with
  | none => rw [hl] at hx; simp at hx
  | some l =>
    rw [hl] at hx
    exact h.lt l (List.mem_of_getElem? hl) x hx

/-- Each goes with the one that goes with it. -/
structure Good (m : Nat) (adj : List (List Int)) (f g : Int → Int) : Prop where
  l : ∀ i : Int, 0 ≤ i → i < adj.length → f i = -1 ∨ (f i ∈ nbM adj i ∧ g (f i) = i)
  r : ∀ k : Int, 0 ≤ k → k < m → g k = -1 ∨ (0 ≤ g k ∧ g k < adj.length ∧ f (g k) = k)

/-- All of Z are taken, and whoever has one of Z may go with those of Z alone. -/
def Closed (adj : List (List Int)) (g : Int → Int) (Z : Int → Prop) : Prop := ∀ k, Z k → g k ≠ -1 ∧ ∀ y ∈ nbM adj (g k), Z y

/-- So far nobody was found. -/
structure RF (adj : List (List Int)) (g : Int → Int) (s s' : Int → Bool) : Prop where
  le : ∀ k, s k = true → s' k = true
  new : ∀ k, s' k = true → s k = false → g k ≠ -1 ∧ ∀ y ∈ nbM adj (g k), s' y = true

theorem RF.refl (adj : List (List Int)) (g : Int → Int) (s : Int → Bool) : RF adj g s s := ⟨fun _ h => h, fun k h h' => by rw [h] at h'; cases h'⟩

/-- Another function at one place. -/
def setF {α : Type} (f : Int → α) (x : Int) (v : α) : Int → α := fun y => if y = x then v else f y
theorem setF_same {α : Type} (f : Int → α) (x : Int) (v : α) : setF f x v x = v := by simp [setF]
theorem setF_ne {α : Type} (f : Int → α) {x y : Int} (v : α) (h : y ≠ x) : setF f x v y = f y := by simp [setF, h]

theorem RF.step {adj : List (List Int)} {g : Int → Int} {s s1 s2 : Int → Bool} {k : Int} (h : RF adj g s s1) (hk : s1 k = false) (hg : g k ≠ -1) (h2 : RF adj g (setF s1 k true) s2) (hn : ∀ y ∈ nbM adj (g k), s2 y = true) : RF adj g s s2 := by
  have hle : ∀ j, s1 j = true → s2 j = true := fun j hj => h2.le j (by by_cases e : j = k; (· subst e; exact setF_same _ _ _); (· rw [setF_ne _ _ e]; exact hj))
  refine ⟨fun j hj => hle j (h.le j hj), fun j hj hj0 => ?_⟩
  by_cases e : j = k
  · subst e; exact ⟨hg, hn⟩
  · by_cases h1 : s1 j = true
    · obtain ⟨a, b⟩ := h.new j h1 hj0
      exact ⟨a, fun y hy => hle y (b y hy)⟩
    · exact h2.new j hj (by rw [setF_ne _ _ e]; simpa using h1)

/-- Somebody was found for i. -/
structure RT (m : Nat) (adj : List (List Int)) (i : Int) (f g : Int → Int) (s : Int → Bool) (f' g' : Int → Int) (s' : Int → Bool) : Prop where
  le : ∀ k, s k = true → s' k = true
  keep : ∀ k, s k = true → g' k = g k
  good : Good m adj f' (fun k => if f i ≠ -1 ∧ k = f i then -1 else g' k)
  has : f' i ≠ -1
  same : ∀ j : Int, 0 ≤ j → j < adj.length → j ≠ i → (f' j = -1 ↔ f j = -1)
  closed : ∀ Z, Closed adj g Z → (∀ k, Z k → g' k = g k) ∧ ¬ ∀ y ∈ nbM adj i, Z y

section
variable {m : Nat} {adj : List (List Int)} {i k : Int} {f g : Int → Int} {s s1 : Int → Bool}

theorem rt_free (hG : GrM m adj) (hf : Good m adj f g) (hi0 : 0 ≤ i) (hin : i < adj.length) (hs : f i = -1 ∨ s (f i) = true) (h : RF adj g s s1) (hk : k ∈ nbM adj i) (hk1 : s1 k = false) (hgk : g k = -1) :
    RT m adj i f g s (setF f i k) (setF g k i) (setF s1 k true) := by
  obtain ⟨k0, km⟩ := hG.nb hk
  have hks : s k = false := by
    cases e : s k with
    | false => rfl
    | true => rw [h.le k e] at hk1; cases hk1
  have hne : ∀ j, s j = true → j ≠ k := fun j hj e => by subst e; rw [hks] at hj; cases hj
  refine ⟨fun j hj => ?_, fun j hj => setF_ne _ _ (hne j hj), ⟨fun j j0 jn => ?_, fun j j0 jm => ?_⟩, ?_, fun j _ _ e => by rw [setF_ne _ _ e], fun Z hZ => ⟨fun j hj => ?_, fun hall => ?_⟩⟩
  · rw [setF_ne _ _ (hne j hj)]; exact h.le j hj
  · by_cases e : j = i
    · subst e
      rw [setF_same]
      refine .inr ⟨hk, ?_⟩
      have : ¬ (f j ≠ -1 ∧ k = f j) := fun ⟨a, b⟩ => by rcases hs with hs | hs; (· exact a hs); (· exact hne _ hs b.symm)
      simp only [this, if_false, setF_same]
    · rw [setF_ne _ _ e]
      rcases hf.l j j0 jn with h1 | ⟨h1, h2⟩
      · exact .inl h1
      · refine .inr ⟨h1, ?_⟩
        have e1 : f j ≠ k := fun e => by rw [e, hgk] at h2; omega
        have : ¬ (f i ≠ -1 ∧ f j = f i) := fun ⟨a, b⟩ => by
          rcases hf.l i hi0 hin with c | ⟨_, c⟩
          · exact a c
          · rw [b, c] at h2; exact e h2.symm
        simp only [this, if_false, setF_ne _ _ e1, h2]
  · by_cases e : f i ≠ -1 ∧ j = f i
    · exact .inl (if_pos e)
    · simp only [e, if_false]
      by_cases ek : j = k
      · subst ek
        rw [setF_same]
        exact .inr ⟨hi0, hin, setF_same _ _ _⟩
      · rw [setF_ne _ _ ek]
        rcases hf.r j j0 jm with h1 | ⟨h1, h2, h3⟩
        · exact .inl h1
        · refine .inr ⟨h1, h2, ?_⟩
          have : g j ≠ i := fun e' => by rw [e'] at h3; exact e ⟨by omega, h3.symm⟩
          rw [setF_ne _ _ this, h3]
  · rw [setF_same]; omega
  · have : j ≠ k := fun e => by subst e; exact (hZ j hj).1 hgk
    rw [setF_ne _ _ this]
  · exact (hZ k (hall k hk)).1 hgk

theorem rt_push {f2 g2 : Int → Int} {s2 : Int → Bool} (hG : GrM m adj) (hf : Good m adj f g) (hi0 : 0 ≤ i) (hin : i < adj.length) (hs : f i = -1 ∨ s (f i) = true) (h : RF adj g s s1) (hk : k ∈ nbM adj i) (hk1 : s1 k = false) (hgk : g k ≠ -1)
    (h2 : RT m adj (g k) f g (setF s1 k true) f2 g2 s2) : RT m adj i f g s (setF f2 i k) (setF g2 k i) s2 := by
  obtain ⟨k0, km⟩ := hG.nb hk
  have hks : s k = false := by
    cases e : s k with
    | false => rfl
    | true => rw [h.le k e] at hk1; cases hk1
  have hne : ∀ j, s j = true → j ≠ k := fun j hj e => by subst e; rw [hks] at hj; cases hj
  obtain ⟨g0, gn, fg⟩ : 0 ≤ g k ∧ g k < adj.length ∧ f (g k) = k := by
    rcases hf.r k k0 km with h1 | h1
    · exact absurd h1 hgk
    · exact h1
  have hii : i ≠ g k := by
    intro e
    rw [← e] at fg
    rcases hs with hs | hs
    · omega
    · exact hne _ hs fg
  have hup : ∀ j, s j = true → setF s1 k true j = true := fun j hj => by rw [setF_ne _ _ (hne j hj)]; exact h.le j hj
  have hgood := h2.good
  rw [fg] at hgood
  have hif : ∀ j : Int, (if k ≠ -1 ∧ j = k then (-1 : Int) else g2 j) = if j = k then -1 else g2 j := by
    intro j
    have : k ≠ -1 := by omega
    simp [this]
  simp only [hif] at hgood
  -- what i had stays
  have hfi : f2 i = f i := by
    rcases hs with hs | hs
    · rw [hs]; exact (h2.same i hi0 hin hii).2 hs
    · rcases hf.l i hi0 hin with c | ⟨c1, c2⟩
      · rw [c]; exact (h2.same i hi0 hin hii).2 c
      · have e1 : f i ≠ k := hne _ hs
        have e2 := h2.keep (f i) (hup _ hs)
        obtain ⟨d1, d2⟩ := hG.nb c1
        rcases hgood.r (f i) d1 d2 with h3 | ⟨_, _, h3⟩
        · rw [if_neg e1, e2, c2] at h3; omega
        · rw [if_neg e1, e2, c2] at h3; exact h3
  refine ⟨fun j hj => h2.le j (hup j hj), fun j hj => ?_, ⟨fun j j0 jn => ?_, fun j j0 jm => ?_⟩, ?_, fun j j0 jn e => ?_, fun Z hZ => ?_⟩
  · rw [setF_ne _ _ (hne j hj), h2.keep j (hup j hj)]
  · by_cases e : j = i
    · subst e
      rw [setF_same]
      refine .inr ⟨hk, ?_⟩
      have : ¬ (f j ≠ -1 ∧ k = f j) := fun ⟨a, b⟩ => by rcases hs with hs | hs; (· exact a hs); (· exact hne _ hs b.symm)
      simp only [this, if_false, setF_same]
    · rw [setF_ne _ _ e]
      rcases hgood.l j j0 jn with h1 | ⟨h1, h3⟩
      · exact .inl h1
      · refine .inr ⟨h1, ?_⟩
        by_cases e1 : f2 j = k
        · rw [if_pos e1] at h3; omega
        rw [if_neg e1] at h3
        have : ¬ (f i ≠ -1 ∧ f2 j = f i) := fun ⟨a, b⟩ => by
          rcases hs with hs | hs
          · exact a hs
          · rcases hf.l i hi0 hin with c | ⟨_, c⟩
            · exact a c
            · have := h2.keep (f i) (hup _ hs)
              rw [← b, h3, b, c] at this
              exact e this
        simp only [this, if_false, setF_ne _ _ e1, h3]
  · by_cases e : f i ≠ -1 ∧ j = f i
    · exact .inl (if_pos e)
    · simp only [e, if_false]
      by_cases ek : j = k
      · subst ek
        rw [setF_same]
        exact .inr ⟨hi0, hin, setF_same _ _ _⟩
      · rw [setF_ne _ _ ek]
        have := hgood.r j j0 jm
        rw [if_neg ek] at this
        rcases this with h1 | ⟨h1, h3, h4⟩
        · exact .inl h1
        · refine .inr ⟨h1, h3, ?_⟩
          have : g2 j ≠ i := fun e' => by rw [e', hfi] at h4; exact e ⟨by omega, h4.symm⟩
          rw [setF_ne _ _ this, h4]
  · rw [setF_same]; omega
  · rw [setF_ne _ _ e]
    by_cases e2 : j = g k
    · subst e2
      exact ⟨fun h => absurd h h2.has, fun h => by rw [fg] at h; omega⟩
    · exact h2.same j j0 jn e2
  · obtain ⟨h3, h4⟩ := h2.closed Z hZ
    have hkZ : ¬ Z k := fun hz => h4 (hZ k hz).2
    refine ⟨fun j hj => ?_, fun hall => hkZ (hall k hk)⟩
    have : j ≠ k := fun e => by subst e; exact hkZ hj
    rw [setF_ne _ _ this, h3 j hj]
end
end Go.Am

namespace Go.Am
set_option linter.unusedVariables false

/-- The first i have been asked: some set shows why who has none has none. -/
structure MInv (m : Nat) (adj : List (List Int)) (i : Nat) (f g : Int → Int) : Prop where
  good : Good m adj f g
  later : ∀ j : Int, (i : Int) ≤ j → j < adj.length → f j = -1
  why : ∃ Z, Closed adj g Z ∧ ∀ j : Int, 0 ≤ j → j < i → f j = -1 → ∀ y ∈ nbM adj j, Z y

theorem MInv.start (m : Nat) (adj : List (List Int)) : MInv m adj 0 (fun _ => -1) (fun _ => -1) :=
  ⟨⟨fun _ _ _ => .inl rfl, fun _ _ _ => .inl rfl⟩, fun _ _ _ => rfl, fun _ => False, fun _ h => h.elim, fun j h0 h1 => by omega⟩

section
variable {m : Nat} {adj : List (List Int)} {i : Nat} {f g : Int → Int} {s' : Int → Bool}
theorem MInv.no (h : MInv m adj i f g) (hi : i < adj.length) (r : RF adj g (fun _ => false) s') (hn : ∀ y ∈ nbM adj i, s' y = true) : MInv m adj (i + 1) f g := by
  obtain ⟨Z, z1, z2⟩ := h.why
  refine ⟨h.good, fun j a b => h.later j (by omega) b, fun k => Z k ∨ s' k = true, fun k hk => ?_, fun j a b c y hy => ?_⟩
  · rcases hk with hk | hk
    · exact ⟨(z1 k hk).1, fun y hy => .inl ((z1 k hk).2 y hy)⟩
    · obtain ⟨p, q⟩ := r.new k hk rfl
      exact ⟨p, fun y hy => .inr (q y hy)⟩
  · by_cases e : j = i
    · subst e; exact .inr (hn y hy)
    · exact .inl (z2 j a (by omega) c y hy)
theorem MInv.yes {f' g' : Int → Int} (h : MInv m adj i f g) (hi : i < adj.length) (r : RT m adj i f g (fun _ => false) f' g' s') : MInv m adj (i + 1) f' g' := by
  obtain ⟨Z, z1, z2⟩ := h.why
  have hfi := h.later i (Int.le_refl _) (by omega)
  have hg := r.good
  have e : (fun k => if f i ≠ -1 ∧ k = f i then -1 else g' k) = g' := by
    funext k
    rw [if_neg (fun h => h.1 hfi)]
  rw [e] at hg
  have hz := (r.closed Z z1).1
  refine ⟨hg, fun j a b => (r.same j (by omega) b (by omega)).2 (h.later j (by omega) b), Z, fun k hk => ?_, fun j a b c y hy => ?_⟩
  · rw [hz k hk]; exact z1 k hk
  · have hji : j ≠ i := fun e => by subst e; exact r.has c
    exact z2 j a (by omega) ((r.same j a (by omega) hji).1 c) y hy
end

/-- How many on the left have one. -/
def cntM (n : Nat) (f : Int → Int) : Nat := (upto n).countP fun j => decide (f j ≠ -1)

/-- Pairs, each with one other at most. -/
structure Mtc (adj : List (List Int)) (f : Int → Int) : Prop where
  nb : ∀ i : Int, 0 ≤ i → i < adj.length → f i ≠ -1 → f i ∈ nbM adj i
  inj : ∀ i j : Int, 0 ≤ i → i < adj.length → 0 ≤ j → j < adj.length → f i ≠ -1 → f i = f j → i = j
theorem Good.mtc {m : Nat} {adj : List (List Int)} {f g : Int → Int} (h : Good m adj f g) : Mtc adj f := by
  refine ⟨fun i a b c => ?_, fun i j a b a' b' c e => ?_⟩
  · rcases h.l i a b with x | x
    · exact absurd x c
    · exact x.1
  · rcases h.l i a b with x | x
    · exact absurd x c
    rcases h.l j a' b' with y | y
    · rw [e] at c; exact absurd y c
    rw [← x.2, e, y.2]

/-- Each pair has one of these. -/
structure Cv (m : Nat) (adj : List (List Int)) (l r : List Int) : Prop where
  lset : IsSet l
  rset : IsSet r
  llt : ∀ x ∈ l, x < adj.length
  rlt : ∀ x ∈ r, x < m
  cover : ∀ i : Int, 0 ≤ i → i < adj.length → i ∉ l → ∀ y ∈ nbM adj i, y ∈ r

theorem nodup_le : ∀ (A B : List Int), A.Nodup → (∀ x ∈ A, x ∈ B) → A.length ≤ B.length := by
  intro A
  induction A with
  | nil => intro B _ _; simp
  | cons x A ih =>
    intro B hn hs
    have hx : x ∈ B := hs x (by simp)
    have h1 := ih (B.erase x) (List.nodup_cons.1 hn).2 fun y hy => by
      have hne : y ≠ x := fun e => by subst e; exact (List.nodup_cons.1 hn).1 hy
      exact (List.mem_erase_of_ne hne).2 (hs y (by simp [hy]))
    rw [List.length_erase_of_mem hx] at h1
    have := List.length_pos_of_mem hx
    simp only [List.length_cons]
    omega
theorem nodup_upto (n : Nat) : (upto n).Nodup := (up_upto n).imp fun h e => by omega
theorem nodup_mapF {A : List Int} {f : Int → Int} (h : A.Nodup) (hi : ∀ x ∈ A, ∀ y ∈ A, f x = f y → x = y) : (A.map f).Nodup := by
  induction A with
  | nil => simp
  | cons x A ih =>
    rw [List.map_cons, List.nodup_cons]
    refine ⟨fun hm => ?_, ih (List.nodup_cons.1 h).2 fun a ha b hb => hi a (by simp [ha]) b (by simp [hb])⟩
    obtain ⟨y, hy, e⟩ := List.mem_map.1 hm
    have := hi y (by simp [hy]) x (by simp) e
    subst this
    exact (List.nodup_cons.1 h).1 hy

theorem cnt_split (p q : Int → Bool) (l : List Int) : l.countP p = (l.filter fun x => p x && q x).length + (l.filter fun x => p x && !q x).length := by
  induction l with
  | nil => rfl
  | cons x l ih =>
    rw [List.countP_cons, List.filter_cons, List.filter_cons, ih]
    cases p x <;> cases q x <;> simp <;> omega

/-- No pairs are more than what has one of each. -/
theorem Mtc.le {m : Nat} {adj : List (List Int)} {f : Int → Int} {l r : List Int} (h : Mtc adj f) (c : Cv m adj l r) : cntM adj.length f ≤ l.length + r.length := by
  unfold cntM
  rw [cnt_split _ (fun x => decide (x ∈ l))]
  refine Nat.add_le_add ?_ ?_
  · refine nodup_le _ _ ((nodup_upto _).filter _) fun x hx => ?_
    have := (List.mem_filter.1 hx).2
    simp at this; exact this.2
  · have hm : ∀ x ∈ (upto adj.length).filter (fun x => decide (f x ≠ -1) && !decide (x ∈ l)), 0 ≤ x ∧ x < adj.length ∧ f x ≠ -1 ∧ x ∉ l := by
      intro x hx
      have h1 := mem_upto.1 (List.mem_filter.1 hx).1
      have h2 := (List.mem_filter.1 hx).2
      simp at h2
      exact ⟨h1.1, h1.2, h2.1, h2.2⟩
    rw [← List.length_map (f := f)]
    refine nodup_le _ _ (nodup_mapF ((nodup_upto _).filter _) fun x hx y hy e => ?_) fun x hx => ?_
    · obtain ⟨a, b, c1, _⟩ := hm x hx
      obtain ⟨a', b', _, _⟩ := hm y hy
      exact h.inj x y a b a' b' c1 e
    · obtain ⟨y, hy, rfl⟩ := List.mem_map.1 hx
      obtain ⟨a, b, c1, c2⟩ := hm y hy
      exact c.cover y a b c2 _ (h.nb y a b c1)

/-- As many as the greatest matching has. -/
def IsNu (m : Nat) (adj : List (List Int)) (v : Nat) : Prop := (∃ f, Mtc adj f ∧ cntM adj.length f = v) ∧ ∃ l r, Cv m adj l r ∧ l.length + r.length = v
theorem IsNu.uniq {m : Nat} {adj : List (List Int)} {v v' : Nat} (h : IsNu m adj v) (h' : IsNu m adj v') : v = v' := by
  obtain ⟨⟨f, a, rfl⟩, l, r, b, e⟩ := h
  obtain ⟨⟨f', a', rfl⟩, l', r', b', e'⟩ := h'
  have := a.le b'
  have := a'.le b
  omega

/-- What was reached from those who have none. -/
structure Rch (m : Nat) (adj : List (List Int)) (f g : Int → Int) (rd s : Int → Bool) : Prop where
  none : ∀ j : Int, 0 ≤ j → j < adj.length → f j = -1 → rd j = true ∧ ∀ y ∈ nbM adj j, s y = true
  only : ∀ j : Int, 0 ≤ j → j < adj.length → rd j = true → f j = -1 ∨ ∃ k : Int, 0 ≤ k ∧ k < m ∧ s k = true ∧ g k = j
  seen : ∀ k : Int, 0 ≤ k → k < m → s k = true → g k ≠ -1 ∧ rd (g k) = true ∧ ∀ y ∈ nbM adj (g k), s y = true

theorem Rch.cover {m : Nat} {adj : List (List Int)} {f g : Int → Int} {rd s : Int → Bool} (hG : GrM m adj) (hf : Good m adj f g) (h : Rch m adj f g rd s) :
    Cv m adj ((upto adj.length).filter fun i => !rd i) ((upto m).filter s) ∧ ((upto adj.length).filter fun i => !rd i).length + ((upto m).filter s).length = cntM adj.length f := by
  have hnl := hG.nle
  have hml := hG.mle
  refine ⟨⟨(isSet_upto (by omega)).filter _, (isSet_upto (by omega)).filter _, fun x hx => (mem_upto.1 (List.mem_filter.1 hx).1).2, fun x hx => (mem_upto.1 (List.mem_filter.1 hx).1).2, fun i a b c y hy => ?_⟩, ?_⟩
  · have hr : rd i = true := by
      cases e : rd i with
      | true => rfl
      | false => exact absurd (List.mem_filter.2 ⟨mem_upto.2 ⟨a, b⟩, by simp [e]⟩) c
    have hy2 := hG.nb hy
    refine List.mem_filter.2 ⟨mem_upto.2 hy2, ?_⟩
    rcases h.only i a b hr with h1 | ⟨k, k0, km, hs, rfl⟩
    · exact (h.none i a b h1).2 y hy
    · exact (h.seen k k0 km hs).2.2 y hy
  · rw [cntM, cnt_split _ rd]
    have e1 : ((upto adj.length).filter fun x => decide (f x ≠ -1) && !rd x) = (upto adj.length).filter fun i => !rd i := by
      refine List.filter_congr fun x hx => ?_
      obtain ⟨a, b⟩ := mem_upto.1 hx
      cases e : rd x with
      | true => simp
      | false =>
        have : f x ≠ -1 := fun h1 => by rw [(h.none x a b h1).1] at e; cases e
        simp [this]
    rw [e1, Nat.add_comm]
    congr 1
    have hs : ∀ k ∈ (upto m).filter s, 0 ≤ k ∧ k < m ∧ s k = true := fun k hk => ⟨(mem_upto.1 (List.mem_filter.1 hk).1).1, (mem_upto.1 (List.mem_filter.1 hk).1).2, (List.mem_filter.1 hk).2⟩
    have hg : ∀ k ∈ (upto m).filter s, 0 ≤ g k ∧ g k < adj.length ∧ f (g k) = k := by
      intro k hk
      obtain ⟨a, b, c⟩ := hs k hk
      rcases hf.r k a b with h1 | h1
      · exact absurd h1 (h.seen k a b c).1
      · exact h1
    refine Nat.le_antisymm ?_ ?_
    · rw [← List.length_map (f := g)]
      refine nodup_le _ _ (nodup_mapF ((nodup_upto _).filter _) fun x hx y hy e => ?_) fun x hx => ?_
      · rw [← (hg x hx).2.2, e, (hg y hy).2.2]
      · obtain ⟨k, hk, rfl⟩ := List.mem_map.1 hx
        obtain ⟨a, b, c⟩ := hs k hk
        obtain ⟨a', b', c'⟩ := hg k hk
        refine List.mem_filter.2 ⟨mem_upto.2 ⟨a', b'⟩, ?_⟩
        rw [(h.seen k a b c).2.1, c']
        simp; omega
    · have hm : ∀ x ∈ (upto adj.length).filter (fun x => decide (f x ≠ -1) && rd x), 0 ≤ x ∧ x < adj.length ∧ f x ≠ -1 ∧ rd x = true := by
        intro x hx
        have h1 := mem_upto.1 (List.mem_filter.1 hx).1
        have h2 := (List.mem_filter.1 hx).2
        simp at h2
        exact ⟨h1.1, h1.2, h2.1, h2.2⟩
      have hlm : (((upto adj.length).filter fun x => decide (f x ≠ -1) && rd x).map f).length = ((upto adj.length).filter fun x => decide (f x ≠ -1) && rd x).length := List.length_map f
      rw [← hlm]
      refine nodup_le _ _ (nodup_mapF ((nodup_upto _).filter _) fun x hx y hy e => ?_) fun x hx => ?_
      · obtain ⟨a, b, c, _⟩ := hm x hx
        obtain ⟨a', b', _, _⟩ := hm y hy
        exact hf.mtc.inj x y a b a' b' c e
      · obtain ⟨y, hy, rfl⟩ := List.mem_map.1 hx
        obtain ⟨a, b, c, d⟩ := hm y hy
        rcases h.only y a b d with h1 | ⟨k, k0, km, hk, rfl⟩
        · exact absurd h1 c
        · have := hg k (List.mem_filter.2 ⟨mem_upto.2 ⟨k0, km⟩, hk⟩)
          rw [this.2.2]
          exact List.mem_filter.2 ⟨mem_upto.2 ⟨k0, km⟩, hk⟩
end Go.Am

namespace Go.Am
set_option linter.unusedVariables false

/-- What a walk from i has reached, of the first q that i may go with. -/
structure WQ (m : Nat) (adj : List (List Int)) (g : Int → Int) (i : Int) (q : Nat) (s rd s' rd' : Int → Bool) : Prop where
  le : ∀ k, s k = true → s' k = true
  rle : ∀ j, rd j = true → rd' j = true
  me : rd' i = true
  nb : ∀ y ∈ (nbM adj i).take q, s' y = true
  only : ∀ j, rd' j = true → rd j = true ∨ j = i ∨ ∃ k, s' k = true ∧ s k = false ∧ g k = j
  new : ∀ k, s' k = true → s k = false → 0 ≤ k ∧ k < m ∧ g k ≠ -1 ∧ rd' (g k) = true ∧ ∀ y ∈ nbM adj (g k), s' y = true

section
variable {m : Nat} {adj : List (List Int)} {g : Int → Int} {i : Int} {q : Nat} {s rd s1 rd1 s2 rd2 : Int → Bool}
theorem WQ.start : WQ m adj g i 0 s rd s (setF rd i true) := by
  refine ⟨fun _ h => h, fun j h => ?_, setF_same _ _ _, by simp, fun j h => ?_, fun k h h' => by rw [h] at h'; cases h'⟩
  · by_cases e : j = i
    · subst e; exact setF_same _ _ _
    · rw [setF_ne _ _ e]; exact h
  · by_cases e : j = i
    · exact .inr (.inl e)
    · rw [setF_ne _ _ e] at h; exact .inl h
theorem take_new {l : List Int} {k : Int} (hq : q < l.length) (hk : k = l[q]) {s : Int → Bool} (h : ∀ y ∈ l.take q, s y = true) (hs : s k = true) : ∀ y ∈ l.take (q + 1), s y = true := by
  intro y hy
  rw [List.take_succ_eq_append_getElem hq, List.mem_append, List.mem_singleton] at hy
  rcases hy with hy | rfl
  · exact h y hy
  · rw [← hk]; exact hs
theorem WQ.seen (h : WQ m adj g i q s rd s1 rd1) (hq : q < (nbM adj i).length) {k : Int} (hk : k = (nbM adj i)[q]) (hs : s1 k = true) : WQ m adj g i (q + 1) s rd s1 rd1 :=
  ⟨h.le, h.rle, h.me, take_new hq hk h.nb hs, h.only, h.new⟩
theorem WQ.go (h : WQ m adj g i q s rd s1 rd1) (hq : q < (nbM adj i).length) {k : Int} (hk : k = (nbM adj i)[q]) (h0 : 0 ≤ k) (hm : k < m) (hs : s1 k = false) (hg : g k ≠ -1)
    (h2 : WQ m adj g (g k) (nbM adj (g k)).length (setF s1 k true) rd1 s2 rd2) : WQ m adj g i (q + 1) s rd s2 rd2 := by
  have hup : ∀ j, s1 j = true → s2 j = true := fun j hj => h2.le j (by by_cases e : j = k; (· subst e; exact setF_same _ _ _); (· rw [setF_ne _ _ e]; exact hj))
  have hk2 : s2 k = true := h2.le k (setF_same _ _ _)
  have hsk : s k = false := by
    cases e : s k with
    | false => rfl
    | true => rw [h.le k e] at hs; cases hs
  have hnb := h2.nb
  rw [List.take_length] at hnb
  refine ⟨fun j hj => hup j (h.le j hj), fun j hj => h2.rle j (h.rle j hj), h2.rle i h.me, take_new hq hk (fun y hy => hup y (h.nb y hy)) hk2, fun j hj => ?_, fun j hj hj0 => ?_⟩
  · rcases h2.only j hj with h3 | h3 | ⟨k', a, b, c⟩
    · rcases h.only j h3 with h4 | h4 | ⟨k', a, b, c⟩
      · exact .inl h4
      · exact .inr (.inl h4)
      · exact .inr (.inr ⟨k', hup k' a, b, c⟩)
    · exact .inr (.inr ⟨k, hk2, hsk, h3.symm⟩)
    · refine .inr (.inr ⟨k', a, ?_, c⟩)
      by_cases e : k' = k
      · subst e; exact hsk
      · rw [setF_ne _ _ e] at b
        cases e2 : s k' with
        | false => rfl
        | true => rw [h.le k' e2] at b; cases b
  · by_cases e : j = k
    · subst e; exact ⟨h0, hm, hg, h2.me, hnb⟩
    · cases e1 : s1 j with
      | true =>
        obtain ⟨a, b, c, d, f⟩ := h.new j e1 hj0
        exact ⟨a, b, c, h2.rle _ d, fun y hy => hup y (f y hy)⟩
      | false => exact h2.new j hj (by rw [setF_ne _ _ e]; exact e1)

/-- What is reached, after the first q on the left were looked at. -/
structure CI (m : Nat) (adj : List (List Int)) (f g : Int → Int) (q : Nat) (rd s : Int → Bool) : Prop where
  none : ∀ j : Int, 0 ≤ j → j < q → f j = -1 → rd j = true ∧ ∀ y ∈ nbM adj j, s y = true
  only : ∀ j : Int, rd j = true → (f j = -1 ∧ ∀ y ∈ nbM adj j, s y = true) ∨ ∃ k : Int, 0 ≤ k ∧ k < m ∧ s k = true ∧ g k = j
  seen : ∀ k : Int, s k = true → 0 ≤ k ∧ k < m ∧ g k ≠ -1 ∧ rd (g k) = true ∧ ∀ y ∈ nbM adj (g k), s y = true

theorem CI.start {f : Int → Int} : CI m adj f g 0 (fun _ => false) (fun _ => false) := ⟨fun j a b => by omega, fun j h => (Bool.false_ne_true h).elim, fun k h => (Bool.false_ne_true h).elim⟩
theorem CI.stay {f : Int → Int} (h : CI m adj f g q rd s) (hq : f q = -1 → rd q = true) (hf : Good m adj f g) : CI m adj f g (q + 1) rd s := by
  refine ⟨fun j a b c => ?_, h.only, h.seen⟩
  by_cases e : j = q
  · subst e
    have hr := hq c
    refine ⟨hr, ?_⟩
    rcases h.only _ hr with h1 | ⟨k, a1, a2, a3, a4⟩
    · exact h1.2
    · rcases hf.r k a1 a2 with h2 | ⟨_, _, h2⟩
      · exact absurd h2 (h.seen k a3).2.2.1
      · rw [a4, c] at h2; omega
  · exact h.none j a (by omega) c
theorem CI.go {f : Int → Int} (h : CI m adj f g q rd s) (hq : f q = -1) (w : WQ m adj g q (nbM adj q).length s rd s1 rd1) : CI m adj f g (q + 1) rd1 s1 := by
  have hnb := w.nb
  rw [List.take_length] at hnb
  refine ⟨fun j a b c => ?_, fun j hj => ?_, fun k hk => ?_⟩
  · by_cases e : j = q
    · subst e; exact ⟨w.me, hnb⟩
    · obtain ⟨p, r⟩ := h.none j a (by omega) c
      exact ⟨w.rle j p, fun y hy => w.le y (r y hy)⟩
  · rcases w.only j hj with h1 | h1 | ⟨k, a, b, c⟩
    · rcases h.only j h1 with ⟨h2, h3⟩ | ⟨k, a1, a2, a3, a4⟩
      · exact .inl ⟨h2, fun y hy => w.le y (h3 y hy)⟩
      · exact .inr ⟨k, a1, a2, w.le k a3, a4⟩
    · subst h1; exact .inl ⟨hq, hnb⟩
    · obtain ⟨x, y, _⟩ := w.new k a b
      exact .inr ⟨k, x, y, a, c⟩
  · cases e : s k with
    | true =>
      obtain ⟨a, b, c, d, x⟩ := h.seen k e
      exact ⟨a, b, c, w.rle _ d, fun y hy => w.le y (x y hy)⟩
    | false => exact w.new k hk e
theorem CI.rch {f : Int → Int} (h : CI m adj f g adj.length rd s) : Rch m adj f g rd s :=
  ⟨h.none, fun j _ _ hj => by rcases h.only j hj with h1 | h1; (· exact .inl h1.1); (· exact .inr h1), fun k _ _ hk => by obtain ⟨_, _, a, b, c⟩ := h.seen k hk; exact ⟨a, b, c⟩⟩
end
end Go.Am

namespace Go.Am
set_option linter.unusedVariables false

theorem nbM_app {adj : List (List Int)} {l : List Int} {i : Int} (h0 : 0 ≤ i) (h : i < adj.length) : nbM (adj ++ [l]) i = nbM adj i := by
  unfold nbM
  rw [List.getD_eq_getElem?_getD, List.getD_eq_getElem?_getD, List.getElem?_append_left (by omega)]
theorem nbM_last {adj : List (List Int)} {l : List Int} : nbM (adj ++ [l]) adj.length = l := by
  unfold nbM
  rw [List.getD_eq_getElem?_getD, Int.toNat_natCast, List.getElem?_append_right (Nat.le_refl _)]
  simp
theorem app_len (adj : List (List Int)) (l : List Int) : (adj ++ [l]).length = adj.length + 1 := by simp

theorem cnt_succ {n : Nat} {f g : Int → Int} (h : ∀ i : Int, 0 ≤ i → i < n → f i = g i) : cntM (n + 1) f = cntM n g + if f n = -1 then 0 else 1 := by
  have e : upto (n + 1) = upto n ++ [(n : Int)] := by simp [upto, List.range_succ]
  unfold cntM
  rw [e, List.countP_append]
  congr 1
  · refine List.countP_congr fun x hx => ?_
    obtain ⟨a, b⟩ := mem_upto.1 hx
    rw [h x a b]
  · by_cases hf : f n = -1 <;> simp [hf]

theorem nu_more {m v v' : Nat} {adj : List (List Int)} {l : List Int} (hn : adj.length ≤ 63) (hv : IsNu m adj v) (hv' : IsNu m (adj ++ [l]) v') : v ≤ v' ∧ v' ≤ v + 1 := by
  obtain ⟨⟨f, hf, rfl⟩, L, R, hc, he⟩ := hv
  obtain ⟨⟨f', hf', rfl⟩, L', R', hc', he'⟩ := hv'
  constructor
  · have hm : Mtc (adj ++ [l]) (fun i => if i < adj.length then f i else -1) := by
      refine ⟨fun i a b c => ?_, fun i j a b a' b' c e => ?_⟩
      · by_cases h : i < adj.length
        · simp only [h, if_true] at c ⊢
          rw [nbM_app a h]; exact hf.nb i a h c
        · simp only [h, if_false] at c; exact absurd rfl c
      · by_cases h : i < adj.length
        · simp only [h, if_true] at c e
          by_cases h' : j < adj.length
          · simp only [h', if_true] at e; exact hf.inj i j a h a' h' c e
          · simp only [h', if_false] at e; exact absurd e c
        · simp only [h, if_false] at c; exact absurd rfl c
    have := hm.le hc'
    rw [app_len, cnt_succ (g := f) (fun i a b => by simp only [b, if_true])] at this
    omega
  · have hset : IsSet [(adj.length : Int)] := .one ⟨by omega, by omega⟩
    obtain ⟨u1, u2⟩ := unionR_spec hc.lset hset
    have hcv : Cv m (adj ++ [l]) (unionR L [(adj.length : Int)]) R := by
      refine ⟨u1, hc.rset, fun x hx => ?_, hc.rlt, fun i a b c y hy => ?_⟩
      · rw [app_len]
        rcases (u2 x).1 hx with h | h
        · have := hc.llt x h; omega
        · simp at h; omega
      · rw [app_len] at b
        have h1 : i ≠ adj.length := fun e => c ((u2 i).2 (.inr (by simp [e])))
        have h2 : i < adj.length := by omega
        rw [nbM_app a h2] at hy
        exact hc.cover i a h2 (fun h => c ((u2 i).2 (.inl h))) y hy
    have hle := hf'.le hcv
    have hul : (unionR L [(adj.length : Int)]).length ≤ L.length + 1 := by
      have := nodup_le (unionR L [(adj.length : Int)]) ((adj.length : Int) :: L) u1.nodup fun y hy => by
        rcases (u2 y).1 hy with h | h
        · simp [h]
        · simp at h; simp [h]
      simpa using this
    omega

/-- There is somebody left, and whoever may go with all takes one. -/
theorem nu_all {m v v' : Nat} {adj : List (List Int)} (hn : adj.length ≤ 63) (hm : v ≤ m) (hm' : v' ≤ m) (hv : IsNu m adj v) (hv' : IsNu m (adj ++ [upto m]) v') : v' = min (v + 1) m := by
  obtain ⟨h1, h2⟩ := nu_more hn hv hv'
  by_cases hlt : v < m
  · obtain ⟨⟨f, hf, rfl⟩, L, R, hc, he⟩ := hv
    obtain ⟨⟨f', hf', rfl⟩, L', R', hc', he'⟩ := hv'
    obtain ⟨k, k0, km, hk⟩ : ∃ k : Int, 0 ≤ k ∧ k < m ∧ ∀ i : Int, 0 ≤ i → i < adj.length → f i ≠ k := by
      refine Classical.byContradiction fun hno => ?_
      have := nodup_le (upto m) (((upto adj.length).filter fun j => decide (f j ≠ -1)).map f) (nodup_upto m) fun k hk => ?_
      · rw [List.length_map, ← List.countP_eq_length_filter, upto_length] at this
        have e : cntM adj.length f = (upto adj.length).countP fun j => decide (f j ≠ -1) := rfl
        omega
      · obtain ⟨a, b⟩ := mem_upto.1 hk
        refine Classical.byContradiction fun hnot => hno ⟨k, a, b, fun i i0 i1 e => hnot ?_⟩
        exact List.mem_map.2 ⟨i, List.mem_filter.2 ⟨mem_upto.2 ⟨i0, i1⟩, by rw [e]; simp; omega⟩, e⟩
    have hmt : Mtc (adj ++ [upto m]) (fun i => if i < adj.length then f i else k) := by
      refine ⟨fun i a b c => ?_, fun i j a b a' b' c e => ?_⟩
      · by_cases h : i < adj.length
        · simp only [h, if_true] at c ⊢
          rw [nbM_app a h]; exact hf.nb i a h c
        · simp only [h, if_false]
          rw [app_len] at b
          have : i = adj.length := by omega
          subst this
          rw [nbM_last]; exact mem_upto.2 ⟨k0, km⟩
      · rw [app_len] at b b'
        by_cases h : i < adj.length
        · simp only [h, if_true] at c e
          by_cases h' : j < adj.length
          · simp only [h', if_true] at e; exact hf.inj i j a h a' h' c e
          · simp only [h', if_false] at e; exact absurd e (hk i a h)
        · simp only [h, if_false] at c e
          by_cases h' : j < adj.length
          · simp only [h', if_true] at e; exact absurd e.symm (hk j a' h')
          · omega
    have := hmt.le hc'
    rw [app_len, cnt_succ (g := f) (fun i a b => by simp only [b, if_true])] at this
    have hne : ¬ (if ((adj.length : Nat) : Int) < adj.length then f adj.length else k) = -1 := by simp; omega
    rw [if_neg hne] at this
    omega
  · omega
end Go.Am
