/- Plain law: matchings, one step of the search. -/
import Derived.Test.YtbcgjjkchmgeoaaM2
namespace Go.Am
set_option linter.unusedVariables false

/-- With whom one on the left may go. -/
def nbM (adj : List (List Int)) (i : Int) : List Int := adj.getD i.toNat []
theorem nbM_get {adj : List (List Int)} {i : Nat} (h : i < adj.length) : nbM adj i = adj[i] := by simp [nbM, h]
theorem nbM_toNat {adj : List (List Int)} {i : Int} (h : i.toNat < adj.length) : adj[i.toNat] = nbM adj i := by simp [nbM, h]

/-- The two sides may be. -/
structure GrM (m : Nat) (adj : List (List Int)) : Prop where
  nle : adj.length ≤ 64
  mle : m ≤ 64
  set : ∀ l ∈ adj, IsSet l
  lt : ∀ l ∈ adj, ∀ x ∈ l, 0 ≤ x ∧ x < m
theorem GrM.nb {m : Nat} {adj : List (List Int)} (h : GrM m adj) {i x : Int} (hx : x ∈ nbM adj i) : 0 ≤ x ∧ x < m := by
  unfold nbM at hx
  rw [List.getD_eq_getElem?_getD] at hx
  cases hl : adj[i.toNat]? with
  | none => rw [hl] at hx; simp at hx
  | some l =>
    rw [hl] at hx
    exact h.lt l (List.mem_of_getElem? hl) x hx

/-- Each goes with the one that goes with it. -/
structure Good (m : Nat) (adj : List (List Int)) (f g : Int → Int) : Prop where
  l : ∀ i : Int, 0 ≤ i → i < adj.length → f i = -1 ∨ (f i ∈ nbM adj i ∧ g (f i) = i)
  r : ∀ k : Int, 0 ≤ k → k < m → g k = -1 ∨ (0 ≤ g k ∧ g k < adj.length ∧ f (g k) = k)

/-- All of Z are taken, and whoever has one of Z may go with those of Z alone. -/
def Closed (adj : List (List Int)) (g : Int → Int) (Z : Int → Prop) : Prop := ∀ k, Z k → g k ≠ -1 ∧ ∀ y ∈ nbM adj (g k), Z y

/-- So far nobody was found. -/
structure RF (adj : List (List Int)) (g : Int → Int) (s s' : Int → Bool) : Prop where
  le : ∀ k, s k = true → s' k = true
  new : ∀ k, s' k = true → s k = false → g k ≠ -1 ∧ ∀ y ∈ nbM adj (g k), s' y = true

theorem RF.refl (adj : List (List Int)) (g : Int → Int) (s : Int → Bool) : RF adj g s s := ⟨fun _ h => h, fun k h h' => by rw [h] at h'; cases h'⟩

/-- Another function at one place. -/
def setF {α : Type} (f : Int → α) (x : Int) (v : α) : Int → α := fun y => if y = x then v else f y
theorem setF_same {α : Type} (f : Int → α) (x : Int) (v : α) : setF f x v x = v := by simp [setF]
theorem setF_ne {α : Type} (f : Int → α) {x y : Int} (v : α) (h : y ≠ x) : setF f x v y = f y := by simp [setF, h]

theorem RF.step {adj : List (List Int)} {g : Int → Int} {s s1 s2 : Int → Bool} {k : Int} (h : RF adj g s s1) (hk : s1 k = false) (hg : g k ≠ -1) (h2 : RF adj g (setF s1 k true) s2) (hn : ∀ y ∈ nbM adj (g k), s2 y = true) : RF adj g s s2 := by
  have hle : ∀ j, s1 j = true → s2 j = true := fun j hj => h2.le j (by by_cases e : j = k; (· subst e; exact setF_same _ _ _); (· rw [setF_ne _ _ e]; exact hj))
  refine ⟨fun j hj => hle j (h.le j hj), fun j hj hj0 => ?_⟩
  by_cases e : j = k
  · subst e; exact ⟨hg, hn⟩
  · by_cases h1 : s1 j = true
    · obtain ⟨a, b⟩ := h.new j h1 hj0
      exact ⟨a, fun y hy => hle y (b y hy)⟩
    · exact h2.new j hj (by rw [setF_ne _ _ e]; simpa using h1)

/-- Somebody was found for i. -/
structure RT (m : Nat) (adj : List (List Int)) (i : Int) (f g : Int → Int) (s : Int → Bool) (f' g' : Int → Int) (s' : Int → Bool) : Prop where
  le : ∀ k, s k = true → s' k = true
  keep : ∀ k, s k = true → g' k = g k
  good : Good m adj f' (fun k => if f i ≠ -1 ∧ k = f i then -1 else g' k)
  has : f' i ≠ -1
  same : ∀ j : Int, 0 ≤ j → j < adj.length → j ≠ i → (f' j = -1 ↔ f j = -1)
  closed : ∀ Z, Closed adj g Z → (∀ k, Z k → g' k = g k) ∧ ¬ ∀ y ∈ nbM adj i, Z y

section
variable {m : Nat} {adj : List (List Int)} {i k : Int} {f g : Int → Int} {s s1 : Int → Bool}

theorem rt_free (hG : GrM m adj) (hf : Good m adj f g) (hi0 : 0 ≤ i) (hin : i < adj.length) (hs : f i = -1 ∨ s (f i) = true) (h : RF adj g s s1) (hk : k ∈ nbM adj i) (hk1 : s1 k = false) (hgk : g k = -1) :
    RT m adj i f g s (setF f i k) (setF g k i) (setF s1 k true) := by
  obtain ⟨k0, km⟩ := hG.nb hk
  have hks : s k = false := by
    cases e : s k with
    | false => rfl
    | true => rw [h.le k e] at hk1; cases hk1
  have hne : ∀ j, s j = true → j ≠ k := fun j hj e => by subst e; rw [hks] at hj; cases hj
  refine ⟨fun j hj => ?_, fun j hj => setF_ne _ _ (hne j hj), ⟨fun j j0 jn => ?_, fun j j0 jm => ?_⟩, ?_, fun j _ _ e => by rw [setF_ne _ _ e], fun Z hZ => ⟨fun j hj => ?_, fun hall => ?_⟩⟩
  · rw [setF_ne _ _ (hne j hj)]; exact h.le j hj
  · by_cases e : j = i
    · subst e
      rw [setF_same]
      refine .inr ⟨hk, ?_⟩
      have : ¬ (f j ≠ -1 ∧ k = f j) := fun ⟨a, b⟩ => by rcases hs with hs | hs; (· exact a hs); (· exact hne _ hs b.symm)
      simp only [this, if_false, setF_same]
    · rw [setF_ne _ _ e]
      rcases hf.l j j0 jn with h1 | ⟨h1, h2⟩
      · exact .inl h1
      · refine .inr ⟨h1, ?_⟩
        have e1 : f j ≠ k := fun e => by rw [e, hgk] at h2; omega
        have : ¬ (f i ≠ -1 ∧ f j = f i) := fun ⟨a, b⟩ => by
          rcases hf.l i hi0 hin with c | ⟨_, c⟩
          · exact a c
          · rw [b, c] at h2; exact e h2.symm
        simp only [this, if_false, setF_ne _ _ e1, h2]
  · by_cases e : f i ≠ -1 ∧ j = f i
    · exact .inl (if_pos e)
    · simp only [e, if_false]
      by_cases ek : j = k
      · subst ek
        rw [setF_same]
        exact .inr ⟨hi0, hin, setF_same _ _ _⟩
      · rw [setF_ne _ _ ek]
        rcases hf.r j j0 jm with h1 | ⟨h1, h2, h3⟩
        · exact .inl h1
        · refine .inr ⟨h1, h2, ?_⟩
          have : g j ≠ i := fun e' => by rw [e'] at h3; exact e ⟨by omega, h3.symm⟩
          rw [setF_ne _ _ this, h3]
  · rw [setF_same]; omega
  · have : j ≠ k := fun e => by subst e; exact (hZ j hj).1 hgk
    rw [setF_ne _ _ this]
  · exact (hZ k (hall k hk)).1 hgk

theorem rt_push {f2 g2 : Int → Int} {s2 : Int → Bool} (hG : GrM m adj) (hf : Good m adj f g) (hi0 : 0 ≤ i) (hin : i < adj.length) (hs : f i = -1 ∨ s (f i) = true) (h : RF adj g s s1) (hk : k ∈ nbM adj i) (hk1 : s1 k = false) (hgk : g k ≠ -1)
    (h2 : RT m adj (g k) f g (setF s1 k true) f2 g2 s2) : RT m adj i f g s (setF f2 i k) (setF g2 k i) s2 := by
  obtain ⟨k0, km⟩ := hG.nb hk
  have hks : s k = false := by
    cases e : s k with
    | false => rfl
    | true => rw [h.le k e] at hk1; cases hk1
  have hne : ∀ j, s j = true → j ≠ k := fun j hj e => by subst e; rw [hks] at hj; cases hj
  obtain ⟨g0, gn, fg⟩ : 0 ≤ g k ∧ g k < adj.length ∧ f (g k) = k := by
    rcases hf.r k k0 km with h1 | h1
    · exact absurd h1 hgk
    · exact h1
  have hii : i ≠ g k := by
    intro e
    rw [← e] at fg
    rcases hs with hs | hs
    · omega
    · exact hne _ hs fg
  have hup : ∀ j, s j = true → setF s1 k true j = true := fun j hj => by rw [setF_ne _ _ (hne j hj)]; exact h.le j hj
  have hgood := h2.good
  rw [fg] at hgood
  have hif : ∀ j : Int, (if k ≠ -1 ∧ j = k then (-1 : Int) else g2 j) = if j = k then -1 else g2 j := by
    intro j
    have : k ≠ -1 := by omega
    simp [this]
  simp only [hif] at hgood
  -- what i had stays
  have hfi : f2 i = f i := by
    rcases hs with hs | hs
    · rw [hs]; exact (h2.same i hi0 hin hii).2 hs
    · rcases hf.l i hi0 hin with c | ⟨c1, c2⟩
      · rw [c]; exact (h2.same i hi0 hin hii).2 c
      · have e1 : f i ≠ k := hne _ hs
        have e2 := h2.keep (f i) (hup _ hs)
        obtain ⟨d1, d2⟩ := hG.nb c1
        rcases hgood.r (f i) d1 d2 with h3 | ⟨_, _, h3⟩
        · rw [if_neg e1, e2, c2] at h3; omega
        · rw [if_neg e1, e2, c2] at h3; exact h3
  refine ⟨fun j hj => h2.le j (hup j hj), fun j hj => ?_, ⟨fun j j0 jn => ?_, fun j j0 jm => ?_⟩, ?_, fun j j0 jn e => ?_, fun Z hZ => ?_⟩
  · rw [setF_ne _ _ (hne j hj), h2.keep j (hup j hj)]
  · by_cases e : j = i
    · subst e
      rw [setF_same]
      refine .inr ⟨hk, ?_⟩
      have : ¬ (f j ≠ -1 ∧ k = f j) := fun ⟨a, b⟩ => by rcases hs with hs | hs; (· exact a hs); (· exact hne _ hs b.symm)
      simp only [this, if_false, setF_same]
    · rw [setF_ne _ _ e]
      rcases hgood.l j j0 jn with h1 | ⟨h1, h3⟩
      · exact .inl h1
      · refine .inr ⟨h1, ?_⟩
        by_cases e1 : f2 j = k
        · rw [if_pos e1] at h3; omega
        rw [if_neg e1] at h3
        have : ¬ (f i ≠ -1 ∧ f2 j = f i) := fun ⟨a, b⟩ => by
          rcases hs with hs | hs
          · exact a hs
          · rcases hf.l i hi0 hin with c | ⟨_, c⟩
            · exact a c
            · have := h2.keep (f i) (hup _ hs)
              rw [← b, h3, b, c] at this
              exact e this
        simp only [this, if_false, setF_ne _ _ e1, h3]
  · by_cases e : f i ≠ -1 ∧ j = f i
    · exact .inl (if_pos e)
    · simp only [e, if_false]
      by_cases ek : j = k
      · subst ek
        rw [setF_same]
        exact .inr ⟨hi0, hin, setF_same _ _ _⟩
      · rw [setF_ne _ _ ek]
        have := hgood.r j j0 jm
        rw [if_neg ek] at this
        rcases this with h1 | ⟨h1, h3, h4⟩
        · exact .inl h1
        · refine .inr ⟨h1, h3, ?_⟩
          have : g2 j ≠ i := fun e' => by rw [e', hfi] at h4; exact e ⟨by omega, h4.symm⟩
          rw [setF_ne _ _ this, h4]
  · rw [setF_same]; omega
  · rw [setF_ne _ _ e]
    by_cases e2 : j = g k
    · subst e2
      exact ⟨fun h => absurd h h2.has, fun h => by rw [fg] at h; omega⟩
    · exact h2.same j j0 jn e2
  · obtain ⟨h3, h4⟩ := h2.closed Z hZ
    have hkZ : ¬ Z k := fun hz => h4 (hZ k hz).2
    refine ⟨fun j hj => ?_, fun hall => hkZ (hall k hk)⟩
    have : j ≠ k := fun e => by subst e; exact hkZ hj
    rw [setF_ne _ _ this, h3 j hj]
end
end Go.Am
