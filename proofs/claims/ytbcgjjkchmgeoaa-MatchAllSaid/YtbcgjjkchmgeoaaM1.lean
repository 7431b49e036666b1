/- Plain: components of edges: what they are, that the order of the edges does not count, how many edges join; rounds of lesser labels come to them. -/
import Derived.Test.YtbcgjjkchmgeoaaW9
namespace Go.Am
open Go
set_option linter.unusedVariables false
set_option linter.unusedSimpArgs false

/-- Each vertex's least connected one. -/
structure Comp (es : List (Int × Int)) (c : Nat → Nat) : Prop where
  le : ∀ w, c w ≤ w
  idem : ∀ w, c (c w) = c w
  edge : ∀ e ∈ es, c e.1.toNat = c e.2.toNat
  min : ∀ f : Nat → Nat, (∀ e ∈ es, f e.1.toNat = f e.2.toNat) → ∀ w, f (c w) = f w

theorem Comp.uniq {es es' : List (Int × Int)} {c c' : Nat → Nat} (h : Comp es c) (h' : Comp es' c') (a : ∀ e ∈ es, c' e.1.toNat = c' e.2.toNat) (b : ∀ e ∈ es', c e.1.toNat = c e.2.toNat) : c = c' := by
  funext w
  have h1 := h.min c' a w
  have h2 := h'.min c b w
  have h3 := h.le (c' w)
  have h4 := h'.le (c w)
  omega

theorem comp_step {es : List (Int × Int)} {c : Nat → Nat} {j : Nat} (h : Comp es c) (e : Int × Int) : Comp (es ++ [e]) (stepC (c, j) e).1 := by
  have ia := h.idem e.1.toNat
  have ib := h.idem e.2.toNat
  have key : ∀ f : Nat → Nat, (∀ x ∈ es ++ [e], f x.1.toNat = f x.2.toNat) → f (c e.1.toNat) = f (c e.2.toNat) := by
    intro f hf
    have h1 := h.min f (fun x hx => hf x (by simp [hx]))
    rw [h1, h1]
    exact hf e (by simp)
  refine ⟨fun w => ?_, fun w => ?_, fun x hx => ?_, fun f hf w => ?_⟩
  · simp only [stepC]
    have := h.le w
    split <;> omega
  · simp only [stepC]
    have hw := h.idem w
    have hm : c (Min.min (c e.1.toNat) (c e.2.toNat)) = Min.min (c e.1.toNat) (c e.2.toNat) := by
      rcases Nat.le_total (c e.1.toNat) (c e.2.toNat) with h | h
      · rw [Nat.min_eq_left h]; exact ia
      · rw [Nat.min_eq_right h]; exact ib
    by_cases e1 : c w = Max.max (c e.1.toNat) (c e.2.toNat)
    · rw [if_pos e1, hm]; split <;> rfl
    · rw [if_neg e1, hw, if_neg e1]
  · simp only [stepC]
    rcases List.mem_append.1 hx with hx | hx
    · rw [h.edge x hx]
    · simp at hx; subst hx
      split <;> split <;> omega
  · have h1 := h.min f (fun x hx => hf x (by simp [hx]))
    have h2 := key f hf
    simp only [stepC]
    by_cases e1 : c w = Max.max (c e.1.toNat) (c e.2.toNat)
    · rw [if_pos e1, ← h1 w, e1]
      rcases Nat.le_total (c e.1.toNat) (c e.2.toNat) with h | h
      · rw [Nat.min_eq_left h, Nat.max_eq_right h, h2]
      · rw [Nat.min_eq_right h, Nat.max_eq_left h, h2]
    · rw [if_neg e1, h1]

theorem compJ_snoc (es : List (Int × Int)) (e : Int × Int) : compJ (es ++ [e]) = stepC (compJ es) e := by simp [compJ, List.foldl_append]

theorem snoc_ind {α : Type} {p : List α → Prop} (h0 : p []) (h1 : ∀ l x, p l → p (l ++ [x])) (l : List α) : p l := by
  have : ∀ n, p (l.take n) := by
    intro n
    induction n with
    | zero => simpa using h0
    | succ n ih =>
      by_cases h : n < l.length
      · rw [List.take_succ_eq_append_getElem h]; exact h1 _ _ ih
      · rw [List.take_of_length_le (by omega)] at ih ⊢; exact ih
  simpa using this l.length

theorem compJ_comp (es : List (Int × Int)) : Comp es (compJ es).1 := by
  induction es using snoc_ind with
  | h0 => exact ⟨fun w => Nat.le_refl _, fun w => rfl, fun e he => by simp at he, fun f _ w => rfl⟩
  | h1 es e ih =>
    rw [compJ_snoc]
    exact comp_step (j := (compJ es).2) ih e

theorem compJ_mem {es es' : List (Int × Int)} (h : ∀ e, e ∈ es ↔ e ∈ es') : (compJ es).1 = (compJ es').1 :=
  (compJ_comp es).uniq (compJ_comp es') (fun e he => (compJ_comp es').edge e ((h e).1 he)) (fun e he => (compJ_comp es).edge e ((h e).2 he))

/-- All edges lie among the first n vertices. -/
abbrev belowE (n : Nat) (es : List (Int × Int)) : Prop := ∀ e ∈ es, e.1.toNat < n ∧ e.2.toNat < n

theorem belowE_of {n : Nat} {es : List (Int × Int)} (h : validG n es = true) : belowE n es := by
  simp only [validG, Bool.and_eq_true, decide_eq_true_eq, List.all_eq_true, edgeOk] at h
  intro e he
  have := h.2 e he
  omega

theorem filter_ne {l : List Nat} {x : Nat} (hd : l.Nodup) (hx : x ∈ l) : (l.filter fun r => decide (r ≠ x)).length + 1 = l.length := by
  induction l with
  | nil => simp at hx
  | cons y l ih =>
    rw [List.nodup_cons] at hd
    rw [List.filter_cons]
    by_cases e : y = x
    · subst e
      rw [if_neg (by simp)]
      rw [List.filter_eq_self.2]
      · simp
      · intro a ha; simp only [decide_eq_true_eq]; intro e; subst e; exact hd.1 ha
    · rw [if_pos (by simpa using e)]
      simp only [List.length_cons]
      rw [ih hd.2 ((List.mem_cons.1 hx).resolve_left fun h => e h.symm)]

theorem compJ_roots {n : Nat} (es : List (Int × Int)) : belowE n es → (compJ es).2 + (rootsK (compJ es).1 n).length = n := by
  induction es using snoc_ind with
  | h0 => intro _; simp only [compJ, rootsK, List.foldl_nil, id, decide_true]; rw [List.filter_eq_self.2 (fun _ _ => rfl)]; simp
  | h1 es e ih =>
    intro hb
    have ih := ih fun x hx => hb x (by simp [hx])
    have hc := compJ_comp es
    obtain ⟨hu, hv⟩ := hb e (by simp)
    rw [compJ_snoc]
    generalize compJ es = s at *
    obtain ⟨c, j⟩ := s
    simp only [stepC] at *
    have lu := hc.le e.1.toNat
    have lv := hc.le e.2.toNat
    have iu := hc.idem e.1.toNat
    have iv := hc.idem e.2.toNat
    by_cases hab : c e.1.toNat = c e.2.toNat
    · rw [if_pos hab]
      have : (fun w => if c w = max (c e.1.toNat) (c e.2.toNat) then min (c e.1.toNat) (c e.2.toNat) else c w) = c := by
        funext w
        rw [hab, Nat.max_self, Nat.min_self]
        split <;> simp_all
      rw [this]; exact ih
    · rw [if_neg hab]
      generalize c e.1.toNat = a at *
      generalize c e.2.toNat = b at *
      have hm : max a b ∈ rootsK c n := by
        rw [mem_rootsK]
        rcases Nat.le_total a b with h | h
        · rw [Nat.max_eq_right h]; exact ⟨by omega, iv⟩
        · rw [Nat.max_eq_left h]; exact ⟨by omega, iu⟩
      have : rootsK (fun w => if c w = max a b then min a b else c w) n = (rootsK c n).filter fun r => decide (r ≠ max a b) := by
        simp only [rootsK, List.filter_filter]
        apply List.filter_congr
        intro r _
        have : (if c r = max a b then min a b else c r) = r ↔ r ≠ max a b ∧ c r = r := by
          split
          · rename_i h
            constructor
            · intro h2
              have hmm : c (min a b) = min a b := by
                rcases Nat.le_total a b with h | h
                · rw [Nat.min_eq_left h]; exact iu
                · rw [Nat.min_eq_right h]; exact iv
              rw [h2] at hmm
              omega
            · intro h2; omega
          · rename_i h
            constructor
            · intro h2; exact ⟨fun e2 => h (by omega), h2⟩
            · intro h2; exact h2.2
        simp only [this, Bool.decide_and]
      rw [this]
      have := filter_ne (rootsK_nodup c n) hm
      omega

theorem rank_mem {n : Nat} {es es' : List (Int × Int)} (hb : belowE n es) (h : ∀ e, e ∈ es ↔ e ∈ es') : (compJ es).2 = (compJ es').2 := by
  have h1 := compJ_roots es hb
  have h2 := compJ_roots (n := n) es' (fun e he => hb e ((h e).2 he))
  rw [compJ_mem h] at h1
  omega

theorem rank_snoc (es : List (Int × Int)) (e : Int × Int) : (compJ es).2 ≤ (compJ (es ++ [e])).2 ∧ (compJ (es ++ [e])).2 ≤ (compJ es).2 + 1 := by
  rw [compJ_snoc]
  simp only [stepC]
  split <;> omega

theorem rank_cons {n : Nat} {es : List (Int × Int)} {e : Int × Int} (hb : belowE n (e :: es)) : (compJ es).2 ≤ (compJ (e :: es)).2 ∧ (compJ (e :: es)).2 ≤ (compJ es).2 + 1 := by
  rw [rank_mem (es' := es ++ [e]) hb (by simp [or_comm])]
  exact rank_snoc es e

theorem rank_app (a b : List (Int × Int)) : (compJ a).2 ≤ (compJ (a ++ b)).2 := by
  induction b using snoc_ind with
  | h0 => simp
  | h1 b e ih => rw [← List.append_assoc]; exact Nat.le_trans ih (rank_snoc _ _).1

theorem rank_app' {n : Nat} {a b : List (Int × Int)} (hb : belowE n (a ++ b)) : (compJ b).2 ≤ (compJ (a ++ b)).2 := by
  rw [rank_mem (es' := b ++ a) hb (by simp [or_comm])]
  exact rank_app b a

theorem rank_sub (a b : List (Int × Int)) : (compJ (a ++ b)).2 ≤ (compJ a).2 + (compJ b).2 := by
  induction b using snoc_ind with
  | h0 => simp
  | h1 b e ih =>
    rw [← List.append_assoc, compJ_snoc, compJ_snoc]
    simp only [stepC]
    have hk : (compJ b).1 e.1.toNat = (compJ b).1 e.2.toNat → (compJ (a ++ b)).1 e.1.toNat = (compJ (a ++ b)).1 e.2.toNat := by
      intro h
      have := (compJ_comp b).min (compJ (a ++ b)).1 (fun x hx => (compJ_comp (a ++ b)).edge x (by simp [hx]))
      rw [← this e.1.toNat, h, this]
    split <;> split <;> omega

/-- Both ends of an edge get the lesser label. -/
def relE (l : Nat → Nat) (e : Int × Int) : Nat → Nat := fun w => if w = e.1.toNat ∨ w = e.2.toNat then min (l e.1.toNat) (l e.2.toNat) else l w
def rnd (es : List (Int × Int)) (l : Nat → Nat) : Nat → Nat := es.foldl relE l
def rnds (es : List (Int × Int)) : Nat → Nat → Nat
  | 0 => id
  | k + 1 => rnd es (rnds es k)

/-- Labels that are of the vertex's own part, and no greater. -/
structure Lab (c l : Nat → Nat) : Prop where
  le : ∀ w, l w ≤ w
  same : ∀ w, c (l w) = c w

theorem relE_lab {c l : Nat → Nat} (h : Lab c l) {e : Int × Int} (he : c e.1.toNat = c e.2.toNat) (hle : ∀ w, c w ≤ w) : Lab c (relE l e) ∧ (∀ w, l w = c w → relE l e w = c w) ∧
    (l e.1.toNat = c e.1.toNat → relE l e e.2.toNat = c e.2.toNat) ∧ (l e.2.toNat = c e.2.toNat → relE l e e.1.toNat = c e.1.toNat) := by
  have lu := h.le e.1.toNat
  have lv := h.le e.2.toNat
  have su := h.same e.1.toNat
  have sv := h.same e.2.toNat
  have hu := hle (l e.1.toNat)
  have hv := hle (l e.2.toNat)
  have hm : c (min (l e.1.toNat) (l e.2.toNat)) = c e.1.toNat := by
    rcases Nat.le_total (l e.1.toNat) (l e.2.toNat) with h | h
    · rw [Nat.min_eq_left h]; exact su
    · rw [Nat.min_eq_right h, sv, he]
  refine ⟨⟨fun w => ?_, fun w => ?_⟩, fun w hw => ?_, fun hw => ?_, fun hw => ?_⟩
  · simp only [relE]
    split
    · rename_i hw; rcases hw with rfl | rfl <;> omega
    · exact h.le w
  · simp only [relE]
    split
    · rename_i hw
      rw [hm]
      rcases hw with rfl | rfl
      · rfl
      · exact he
    · exact h.same w
  · simp only [relE]
    split
    · rename_i hw'
      rcases hw' with rfl | rfl <;> omega
    · exact hw
  · unfold relE; rw [if_pos (.inr rfl)]; omega
  · unfold relE; rw [if_pos (.inl rfl)]; omega

theorem rnd_lab {c : Nat → Nat} (hle : ∀ w, c w ≤ w) (es : List (Int × Int)) : ∀ l, Lab c l → (∀ e ∈ es, c e.1.toNat = c e.2.toNat) → Lab c (rnd es l) ∧ (∀ w, l w = c w → rnd es l w = c w) ∧
    ∀ e ∈ es, (l e.1.toNat = c e.1.toNat → rnd es l e.2.toNat = c e.2.toNat) ∧ (l e.2.toNat = c e.2.toNat → rnd es l e.1.toNat = c e.1.toNat) := by
  induction es with
  | nil => intro l h _; exact ⟨h, fun w hw => hw, fun e he => by simp at he⟩
  | cons e es ih =>
    intro l h hE
    obtain ⟨h1, h2, h3, h4⟩ := relE_lab h (hE e (by simp)) hle
    obtain ⟨g1, g2, g3⟩ := ih _ h1 (fun x hx => hE x (by simp [hx]))
    refine ⟨g1, fun w hw => g2 w (h2 w hw), fun x hx => ?_⟩
    rcases List.mem_cons.1 hx with rfl | hx
    · exact ⟨fun a => g2 _ (h3 a), fun a => g2 _ (h4 a)⟩
    · exact ⟨fun a => (g3 x hx).1 (h2 _ a), fun a => (g3 x hx).2 (h2 _ a)⟩

/-- How many of the first n vertices have their last label. -/
def goodN (c l : Nat → Nat) (n : Nat) : Nat := ((List.range n).filter fun w => decide (l w = c w)).length

theorem filter_grow {α : Type} {p q : α → Bool} (h : ∀ x, p x = true → q x = true) {l : List α} {x : α} (hx : x ∈ l) (hp : p x = false) (hq : q x = true) : (l.filter p).length < (l.filter q).length := by
  have hle : ∀ l : List α, (l.filter p).length ≤ (l.filter q).length := by
    intro l
    induction l with
    | nil => simp
    | cons y l ih =>
      simp only [List.filter_cons]
      cases h1 : p y with
      | true => rw [h y h1]; simp [ih]
      | false => cases q y <;> simp <;> omega
  induction l with
  | nil => simp at hx
  | cons y l ih =>
    have := hle l
    simp only [List.filter_cons]
    rcases List.mem_cons.1 hx with rfl | hx
    · rw [hp, hq]; simp; omega
    · have := ih hx
      cases h1 : p y with
      | true => rw [h y h1]; simp; omega
      | false => cases q y <;> simp <;> omega

theorem rnds_lab (es : List (Int × Int)) (k : Nat) : Lab (compJ es).1 (rnds es k) := by
  induction k with
  | zero => exact ⟨fun w => Nat.le_refl _, fun w => rfl⟩
  | succ k ih => exact (rnd_lab (compJ_comp es).le es _ ih (compJ_comp es).edge).1

theorem rnds_grow (es : List (Int × Int)) {n : Nat} (hb : belowE n es) (k : Nat) : min k n ≤ goodN (compJ es).1 (rnds es k) n := by
  induction k with
  | zero => simp
  | succ k ih =>
    have hc := compJ_comp es
    have hl := rnds_lab es k
    obtain ⟨h1, h2, h3⟩ := rnd_lab hc.le es _ hl hc.edge
    by_cases hall : ∀ w, w < n → rnd es (rnds es k) w = (compJ es).1 w
    · have : goodN (compJ es).1 (rnds es (k + 1)) n = n := by
        unfold goodN
        rw [List.filter_eq_self.2]
        · simp
        · intro w hw; exact decide_eq_true (hall w (by simpa using hw))
      omega
    · -- a vertex that is told for the first time
      have : ∃ w, w < n ∧ rnds es k w ≠ (compJ es).1 w ∧ rnds es (k + 1) w = (compJ es).1 w := by
        refine Classical.byContradiction fun hno => hall fun w hw => ?_
        have hsame : ∀ w, w < n → rnds es (k + 1) w = (compJ es).1 w → rnds es k w = (compJ es).1 w := fun w hw h => Classical.byContradiction fun h' => hno ⟨w, hw, h', h⟩
        -- what is told is closed under edges
        have hf := hc.min (fun w => if rnds es k w = (compJ es).1 w then 1 else 0) (fun e he => by
          obtain ⟨hu, hv⟩ := hb e he
          have a := (h3 e he).1
          have b := (h3 e he).2
          by_cases hx : rnds es k e.1.toNat = (compJ es).1 e.1.toNat
          · rw [if_pos hx, if_pos (hsame _ hv (a hx))]
          · rw [if_neg hx, if_neg (fun hy => hx (hsame _ hu (b hy)))]) w
        have hr : rnds es k ((compJ es).1 w) = (compJ es).1 ((compJ es).1 w) := by
          have := hl.le ((compJ es).1 w)
          have h5 := hl.same ((compJ es).1 w)
          have h6 := hc.le (rnds es k ((compJ es).1 w))
          have h7 := hc.idem w
          omega
        rw [if_pos hr] at hf
        have : rnds es k w = (compJ es).1 w := by
          refine Classical.byContradiction fun h => ?_
          rw [if_neg h] at hf
          omega
        exact h2 w this
      obtain ⟨w, hw, hn, hy⟩ := this
      have := filter_grow (p := fun w => decide (rnds es k w = (compJ es).1 w)) (q := fun w => decide (rnds es (k + 1) w = (compJ es).1 w)) (l := List.range n) (x := w)
        (fun x hx => by simp only [decide_eq_true_eq] at hx ⊢; exact h2 x hx) (by simpa using hw) (by simpa using hn) (by simpa using hy)
      unfold goodN at ih ⊢
      omega

theorem rnds_comp (es : List (Int × Int)) {n : Nat} (hb : belowE n es) {w : Nat} (hw : w < n) : rnds es n w = (compJ es).1 w := by
  have h := rnds_grow es hb n
  rw [Nat.min_self] at h
  refine Classical.byContradiction fun hno => ?_
  have := filter_grow (p := fun w => decide (rnds es n w = (compJ es).1 w)) (q := fun _ => true) (l := List.range n) (x := w) (fun _ _ => rfl) (by simpa using hw) (by simpa using hno) rfl
  have h2 : ((List.range n).filter fun _ => true).length = n := by rw [List.filter_eq_self.2 (fun _ _ => rfl)]; simp
  unfold goodN at h
  omega
end Go.Am
