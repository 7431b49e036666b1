/- Plain: components of edges: what they are, that the order of the edges does not count, how many edges join; rounds of lesser labels come to them. -/
/- Plain: lists that rise are sets; what is sorted, united, met, taken away. -/
/- Plain: digraphs: what one comes to step by step; how far each point is; a queue finds it. -/
import Derived.Test.YtkgcmgbndapjcaaB2
import Derived.Test.YtkgcmgbndapjcaaB1
namespace Go.Am
open Go
set_option linter.unusedVariables false
set_option linter.unusedSimpArgs false

/-- Each vertex's least connected one. -/
structure Comp (es : List (Int × Int)) (c : Nat → Nat) : Prop where
  le : ∀ w, c w ≤ w
  idem : ∀ w, c (c w) = c w
  edge : ∀ e ∈ es, c e.1.toNat = c e.2.toNat
  min : ∀ f : Nat → Nat, (∀ e ∈ es, f e.1.toNat = f e.2.toNat) → ∀ w, f (c w) = f w

theorem Comp.uniq {es es' : List (Int × Int)} {c c' : Nat → Nat} (h : Comp es c) (h' : Comp es' c') (a : ∀ e ∈ es, c' e.1.toNat = c' e.2.toNat) (b : ∀ e ∈ es', c e.1.toNat = c e.2.toNat) : c = c' := by
  funext w
  have h1 := h.min c' a w
  have h2 := h'.min c b w
  have h3 := h.le (c' w)
  have h4 := h'.le (c w)
  omega

theorem comp_step {es : List (Int × Int)} {c : Nat → Nat} {j : Nat} (h : Comp es c) (e : Int × Int) : Comp (es ++ [e]) (stepC (c, j) e).1 := by
  have ia := h.idem e.1.toNat
  have ib := h.idem e.2.toNat
  have key : ∀ f : Nat → Nat, (∀ x ∈ es ++ [e], f x.1.toNat = f x.2.toNat) → f (c e.1.toNat) = f (c e.2.toNat) := by
    intro f hf
    have h1 := h.min f (fun x hx => hf x (by simp [hx]))
    rw [h1, h1]
    exact hf e (by simp)
  refine ⟨fun w => ?_, fun w => ?_, fun x hx => ?_, fun f hf w => ?_⟩
  · simp only [stepC]
    have := h.le w
    split <;> omega
  · simp only [stepC]
    have hw := h.idem w
    have hm : c (Min.min (c e.1.toNat) (c e.2.toNat)) = Min.min (c e.1.toNat) (c e.2.toNat) := by
      rcases Nat.le_total (c e.1.toNat) (c e.2.toNat) with h | h
      · rw [Nat.min_eq_left h]; exact ia
      · rw [Nat.min_eq_right h]; exact ib
    by_cases e1 : c w = Max.max (c e.1.toNat) (c e.2.toNat)
    · rw [if_pos e1, hm]; split <;> rfl
    · rw [if_neg e1, hw, if_neg e1]
  · simp only [stepC]
    rcases List.mem_append.1 hx with hx | hx
    · rw [h.edge x hx]
    · simp at hx; subst hx
      split <;> split <;> omega
  · have h1 := h.min f (fun x hx => hf x (by simp [hx]))
    have h2 := key f hf
    simp only [stepC]
    by_cases e1 : c w = Max.max (c e.1.toNat) (c e.2.toNat)
    · rw [if_pos e1, ← h1 w, e1]
      rcases Nat.le_total (c e.1.toNat) (c e.2.toNat) with h | h
      · rw [Nat.min_eq_left h, Nat.max_eq_right h, h2]
      · rw [Nat.min_eq_right h, Nat.max_eq_left h, h2]
    · rw [if_neg e1, h1]

theorem compJ_snoc (es : List (Int × Int)) (e : Int × Int) : compJ (es ++ [e]) = stepC (compJ es) e := by simp [compJ, List.foldl_append]

theorem snoc_ind {α : Type} {p : List α → Prop} (h0 : p []) (h1 : ∀ l x, p l → p (l ++ [x])) (l : List α) : p l := by
  have : ∀ n, p (l.take n) := by
    intro n
    induction n with
    | zero => simpa using h0
    | succ n ih =>
      by_cases h : n < l.length
      · rw [List.take_succ_eq_append_getElem h]; exact h1 _ _ ih
      · rw [List.take_of_length_le (by omega)] at ih ⊢; exact ih
  simpa using this l.length

theorem compJ_comp (es : List (Int × Int)) : Comp es (compJ es).1 := by
  induction es using snoc_ind with
  | h0 => exact ⟨fun w => Nat.le_refl _, fun w => rfl, fun e he => by simp at he, fun f _ w => rfl⟩
  | h1 es e ih =>
    rw [compJ_snoc]
    exact comp_step (j := (compJ es).2) ih e

theorem compJ_mem {es es' : List (Int × Int)} (h : ∀ e, e ∈ es ↔ e ∈ es') : (compJ es).1 = (compJ es').1 :=
  (compJ_comp es).uniq (compJ_comp es') (fun e he => (compJ_comp es').edge e ((h e).1 he)) (fun e he => (compJ_comp es).edge e ((h e).2 he))

/-- All edges lie among the first n vertices. -/
abbrev belowE (n : Nat) (es : List (Int × Int)) : Prop := ∀ e ∈ es, e.1.toNat < n ∧ e.2.toNat < n

theorem belowE_of {n : Nat} {es : List (Int × Int)} (h : validG n es = true) : belowE n es := by
  simp only [validG, Bool.and_eq_true, decide_eq_true_eq, List.all_eq_true, edgeOk] at h
  intro e he
  have := h.2 e he
  omega

theorem filter_ne {l : List Nat} {x : Nat} (hd : l.Nodup) (hx : x ∈ l) : (l.filter fun r => decide (r ≠ x)).length + 1 = l.length := by
  induction l with
  | nil => simp at hx
  | cons y l ih =>
    rw [List.nodup_cons] at hd
    rw [List.filter_cons]
    by_cases e : y = x
    · subst e
      rw [if_neg (by simp)]
      rw [List.filter_eq_self.2]
      · simp
      · intro a ha; simp only [decide_eq_true_eq]; intro e; subst e; exact hd.1 ha
    · rw [if_pos (by simpa using e)]
      simp only [List.length_cons]
      rw [ih hd.2 ((List.mem_cons.1 hx).resolve_left fun h => e h.symm)]

theorem compJ_roots {n : Nat} (es : List (Int × Int)) : belowE n es → (compJ es).2 + (rootsK (compJ es).1 n).length = n := by
  induction es using snoc_ind with
  | h0 => intro _; simp only [compJ, rootsK, List.foldl_nil, id, decide_true]; rw [List.filter_eq_self.2 (fun _ _ => rfl)]; simp
  | h1 es e ih =>
    intro hb
    have ih := ih fun x hx => hb x (by simp [hx])
    have hc := compJ_comp es
    obtain ⟨hu, hv⟩ := hb e (by simp)
    rw [compJ_snoc]
    generalize compJ es = s at *
    obtain ⟨c, j⟩ := s
    simp only [stepC] at *
    have lu := hc.le e.1.toNat
    have lv := hc.le e.2.toNat
    have iu := hc.idem e.1.toNat
    have iv := hc.idem e.2.toNat
    by_cases hab : c e.1.toNat = c e.2.toNat
    · rw [if_pos hab]
      have : (fun w => if c w = max (c e.1.toNat) (c e.2.toNat) then min (c e.1.toNat) (c e.2.toNat) else c w) = c := by
        funext w
        rw [hab, Nat.max_self, Nat.min_self]
        split <;> simp_all
      rw [this]; exact ih
    · rw [if_neg hab]
      generalize c e.1.toNat = a at *
      generalize c e.2.toNat = b at *
      have hm : max a b ∈ rootsK c n := by
        rw [mem_rootsK]
        rcases Nat.le_total a b with h | h
        · rw [Nat.max_eq_right h]; exact ⟨by omega, iv⟩
        · rw [Nat.max_eq_left h]; exact ⟨by omega, iu⟩
      have : rootsK (fun w => if c w = max a b then min a b else c w) n = (rootsK c n).filter fun r => decide (r ≠ max a b) := by
        simp only [rootsK, List.filter_filter]
        apply List.filter_congr
        intro r _
        have : (if c r = max a b then min a b else c r) = r ↔ r ≠ max a b ∧ c r = r := by
          split
          · rename_i h
            constructor
            · intro h2
              have hmm : c (min a b) = min a b := by
                rcases Nat.le_total a b with h | h
                · rw [Nat.min_eq_left h]; exact iu
                · rw [Nat.min_eq_right h]; exact iv
              rw [h2] at hmm
              omega
            · intro h2; omega
          · rename_i h
            constructor
            · intro h2; exact ⟨fun e2 => h (by omega), h2⟩
            · intro h2; exact h2.2
        simp only [this, Bool.decide_and]
      rw [this]
      have := filter_ne (rootsK_nodup c n) hm
      omega

theorem rank_mem {n : Nat} {es es' : List (Int × Int)} (hb : belowE n es) (h : ∀ e, e ∈ es ↔ e ∈ es') : (compJ es).2 = (compJ es').2 := by
  have h1 := compJ_roots es hb
  have h2 := compJ_roots (n := n) es' (fun e he => hb e ((h e).2 he))
  rw [compJ_mem h] at h1
  omega

theorem rank_snoc (es : List (Int × Int)) (e : Int × Int) : (compJ es).2 ≤ (compJ (es ++ [e])).2 ∧ (compJ (es ++ [e])).2 ≤ (compJ es).2 + 1 := by
  rw [compJ_snoc]
  simp only [stepC]
  split <;> omega

theorem rank_cons {n : Nat} {es : List (Int × Int)} {e : Int × Int} (hb : belowE n (e :: es)) : (compJ es).2 ≤ (compJ (e :: es)).2 ∧ (compJ (e :: es)).2 ≤ (compJ es).2 + 1 := by
  rw [rank_mem (es' := es ++ [e]) hb (by simp [or_comm])]
  exact rank_snoc es e

theorem rank_app (a b : List (Int × Int)) : (compJ a).2 ≤ (compJ (a ++ b)).2 := by
  induction b using snoc_ind with
  | h0 => simp
  | h1 b e ih => rw [← List.append_assoc]; exact Nat.le_trans ih (rank_snoc _ _).1

theorem rank_app' {n : Nat} {a b : List (Int × Int)} (hb : belowE n (a ++ b)) : (compJ b).2 ≤ (compJ (a ++ b)).2 := by
  rw [rank_mem (es' := b ++ a) hb (by simp [or_comm])]
  exact rank_app b a

theorem rank_sub (a b : List (Int × Int)) : (compJ (a ++ b)).2 ≤ (compJ a).2 + (compJ b).2 := by
  induction b using snoc_ind with
  | h0 => simp
  | h1 b e ih =>
    rw [← List.append_assoc, compJ_snoc, compJ_snoc]
    simp only [stepC]
    have hk : (compJ b).1 e.1.toNat = (compJ b).1 e.2.toNat → (compJ (a ++ b)).1 e.1.toNat = (compJ (a ++ b)).1 e.2.toNat := by
      intro h
      have := (compJ_comp b).min (compJ (a ++ b)).1 (fun x hx => (compJ_comp (a ++ b)).edge x (by simp [hx]))
      rw [← this e.1.toNat, h, this]
    split <;> split <;> omega

/-- Both ends of an edge get the lesser label. -/
def relE (l : Nat → Nat) (e : Int × Int) : Nat → Nat := fun w => if w = e.1.toNat ∨ w = e.2.toNat then min (l e.1.toNat) (l e.2.toNat) else l w
def rnd (es : List (Int × Int)) (l : Nat → Nat) : Nat → Nat := es.foldl relE l
def rnds (es : List (Int × Int)) : Nat → Nat → Nat
  | 0 => id
  | k + 1 => rnd es (rnds es k)

/-- Labels that are of the vertex's own part, and no greater. -/
structure Lab (c l : Nat → Nat) : Prop where
  le : ∀ w, l w ≤ w
  same : ∀ w, c (l w) = c w

theorem relE_lab {c l : Nat → Nat} (h : Lab c l) {e : Int × Int} (he : c e.1.toNat = c e.2.toNat) (hle : ∀ w, c w ≤ w) : Lab c (relE l e) ∧ (∀ w, l w = c w → relE l e w = c w) ∧
    (l e.1.toNat = c e.1.toNat → relE l e e.2.toNat = c e.2.toNat) ∧ (l e.2.toNat = c e.2.toNat → relE l e e.1.toNat = c e.1.toNat) := by
  have lu := h.le e.1.toNat
  have lv := h.le e.2.toNat
  have su := h.same e.1.toNat
  have sv := h.same e.2.toNat
  have hu := hle (l e.1.toNat)
  have hv := hle (l e.2.toNat)
  have hm : c (min (l e.1.toNat) (l e.2.toNat)) = c e.1.toNat := by
    rcases Nat.le_total (l e.1.toNat) (l e.2.toNat) with h | h
    · rw [Nat.min_eq_left h]; exact su
    · rw [Nat.min_eq_right h, sv, he]
  refine ⟨⟨fun w => ?_, fun w => ?_⟩, fun w hw => ?_, fun hw => ?_, fun hw => ?_⟩
  · simp only [relE]
    split
    · rename_i hw; rcases hw with rfl | rfl <;> omega
    · exact h.le w
  · simp only [relE]
    split
    · rename_i hw
      rw [hm]
      rcases hw with rfl | rfl
      · rfl
      · exact he
    · exact h.same w
  · simp only [relE]
    split
    · rename_i hw'
      rcases hw' with rfl | rfl <;> omega
    · exact hw
  · unfold relE; rw [if_pos (.inr rfl)]; omega
  · unfold relE; rw [if_pos (.inl rfl)]; omega

theorem rnd_lab {c : Nat → Nat} (hle : ∀ w, c w ≤ w) (es : List (Int × Int)) : ∀ l, Lab c l → (∀ e ∈ es, c e.1.toNat = c e.2.toNat) → Lab c (rnd es l) ∧ (∀ w, l w = c w → rnd es l w = c w) ∧
    ∀ e ∈ es, (l e.1.toNat = c e.1.toNat → rnd es l e.2.toNat = c e.2.toNat) ∧ (l e.2.toNat = c e.2.toNat → rnd es l e.1.toNat = c e.1.toNat) := by
  induction es with
  | nil => intro l h _; exact ⟨h, fun w hw => hw, fun e he => by simp at he⟩
  | cons e es ih =>
    intro l h hE
    obtain ⟨h1, h2, h3, h4⟩ := relE_lab h (hE e (by simp)) hle
    obtain ⟨g1, g2, g3⟩ := ih _ h1 (fun x hx => hE x (by simp [hx]))
    refine ⟨g1, fun w hw => g2 w (h2 w hw), fun x hx => ?_⟩
    rcases List.mem_cons.1 hx with rfl | hx
    · exact ⟨fun a => g2 _ (h3 a), fun a => g2 _ (h4 a)⟩
    · exact ⟨fun a => (g3 x hx).1 (h2 _ a), fun a => (g3 x hx).2 (h2 _ a)⟩

/-- How many of the first n vertices have their last label. -/
def goodN (c l : Nat → Nat) (n : Nat) : Nat := ((List.range n).filter fun w => decide (l w = c w)).length

theorem filter_grow {α : Type} {p q : α → Bool} (h : ∀ x, p x = true → q x = true) {l : List α} {x : α} (hx : x ∈ l) (hp : p x = false) (hq : q x = true) : (l.filter p).length < (l.filter q).length := by
  have hle : ∀ l : List α, (l.filter p).length ≤ (l.filter q).length := by
    intro l
    induction l with
    | nil => simp
    | cons y l ih =>
      simp only [List.filter_cons]
      cases h1 : p y with
      | true => rw [h y h1]; simp [ih]
      | false => cases q y <;> simp <;> omega
  induction l with
  | nil => simp at hx
  | cons y l ih =>
    have := hle l
    simp only [List.filter_cons]
    rcases List.mem_cons.1 hx with rfl | hx
    · rw [hp, hq]; simp; omega
    · have := ih hx
      cases h1 : p y with
      | true => rw [h y h1]; simp; omega
      | false => cases q y <;> simp <;> omega

theorem rnds_lab (es : List (Int × Int)) (k : Nat) : Lab (compJ es).1 (rnds es k) := by
  induction k with
  | zero => exact ⟨fun w => Nat.le_refl _, fun w => rfl⟩
  | succ k ih => exact (rnd_lab (compJ_comp es).le es _ ih (compJ_comp es).edge).1

theorem rnds_grow (es : List (Int × Int)) {n : Nat} (hb : belowE n es) (k : Nat) : min k n ≤ goodN (compJ es).1 (rnds es k) n := by
  induction k with
  | zero => simp
  | succ k ih =>
    have hc := compJ_comp es
    have hl := rnds_lab es k
    obtain ⟨h1, h2, h3⟩ := rnd_lab hc.le es _ hl hc.edge
    by_cases hall : ∀ w, w < n → rnd es (rnds es k) w = (compJ es).1 w
    · have : goodN (compJ es).1 (rnds es (k + 1)) n = n := by
        unfold goodN
        rw [List.filter_eq_self.2]
        · simp
        · intro w hw; exact decide_eq_true (hall w (by simpa using hw))
      omega
    · -- a vertex that is told for the first time
      have : ∃ w, w < n ∧ rnds es k w ≠ (compJ es).1 w ∧ rnds es (k + 1) w = (compJ es).1 w := by
        refine Classical.byContradiction fun hno => hall fun w hw => ?_
        have hsame : ∀ w, w < n → rnds es (k + 1) w = (compJ es).1 w → rnds es k w = (compJ es).1 w := fun w hw h => Classical.byContradiction fun h' => hno ⟨w, hw, h', h⟩
        -- what is told is closed under edges
        have hf := hc.min (fun w => if rnds es k w = (compJ es).1 w then 1 else 0) (fun e he => by
          obtain ⟨hu, hv⟩ := hb e he
          have a := (h3 e he).1
          have b := (h3 e he).2
          by_cases hx : rnds es k e.1.toNat = (compJ es).1 e.1.toNat
          · rw [if_pos hx, if_pos (hsame _ hv (a hx))]
          · rw [if_neg hx, if_neg (fun hy => hx (hsame _ hu (b hy)))]) w
        have hr : rnds es k ((compJ es).1 w) = (compJ es).1 ((compJ es).1 w) := by
          have := hl.le ((compJ es).1 w)
          have h5 := hl.same ((compJ es).1 w)
          have h6 := hc.le (rnds es k ((compJ es).1 w))
          have h7 := hc.idem w
          omega
        rw [if_pos hr] at hf
        have : rnds es k w = (compJ es).1 w := by
          refine Classical.byContradiction fun h => ?_
          rw [if_neg h] at hf
          omega
        exact h2 w this
      obtain ⟨w, hw, hn, hy⟩ := this
      have := filter_grow (p := fun w => decide (rnds es k w = (compJ es).1 w)) (q := fun w => decide (rnds es (k + 1) w = (compJ es).1 w)) (l := List.range n) (x := w)
        (fun x hx => by simp only [decide_eq_true_eq] at hx ⊢; exact h2 x hx) (by simpa using hw) (by simpa using hn) (by simpa using hy)
      unfold goodN at ih ⊢
      omega

theorem rnds_comp (es : List (Int × Int)) {n : Nat} (hb : belowE n es) {w : Nat} (hw : w < n) : rnds es n w = (compJ es).1 w := by
  have h := rnds_grow es hb n
  rw [Nat.min_self] at h
  refine Classical.byContradiction fun hno => ?_
  have := filter_grow (p := fun w => decide (rnds es n w = (compJ es).1 w)) (q := fun _ => true) (l := List.range n) (x := w) (fun _ _ => rfl) (by simpa using hw) (by simpa using hno) rfl
  have h2 : ((List.range n).filter fun _ => true).length = n := by rw [List.filter_eq_self.2 (fun _ _ => rfl)]; simp
  unfold goodN at h
  omega
end Go.Am

namespace Go.Am
open Go
set_option linter.unusedVariables false
set_option linter.unusedSimpArgs false

/-- A list that rises, of numbers that may be. -/
structure IsSet (l : List Int) : Prop where
  up : l.Pairwise (· < ·)
  ok : ∀ x ∈ l, 0 ≤ x ∧ x ≤ 1099511627776

theorem rises_iff' {l : List Int} {last : Int} : risesB last l = true ↔ l.Pairwise (· < ·) ∧ ∀ x ∈ l, last < x ∧ x ≤ 1099511627776 := by
  induction l generalizing last with
  | nil => simp [risesB]
  | cons y l ih =>
    simp only [risesB, Bool.and_eq_true, decide_eq_true_eq, ih, List.pairwise_cons, List.mem_cons]
    constructor
    · rintro ⟨⟨h1, h2⟩, h3, h4⟩
      exact ⟨⟨fun x hx => (h4 x hx).1, h3⟩, fun x hx => hx.elim (fun e => by subst e; exact ⟨h1, h2⟩) fun hx => ⟨by have := (h4 x hx).1; omega, (h4 x hx).2⟩⟩
    · rintro ⟨⟨h1, h2⟩, h3⟩
      exact ⟨⟨(h3 y (.inl rfl)).1, (h3 y (.inl rfl)).2⟩, h2, fun x hx => ⟨h1 x hx, (h3 x (.inr hx)).2⟩⟩

theorem rises_iff {l : List Int} : risesB (-1) l = true ↔ IsSet l := by
  rw [rises_iff']
  exact ⟨fun h => ⟨h.1, fun x hx => by have := h.2 x hx; omega⟩, fun h => ⟨h.up, fun x hx => by have := h.ok x hx; omega⟩⟩

theorem up_ext {a b : List Int} (ha : a.Pairwise (· < ·)) (hb : b.Pairwise (· < ·)) (h : ∀ x, x ∈ a ↔ x ∈ b) : a = b := by
  induction a generalizing b with
  | nil =>
    cases b with
    | nil => rfl
    | cons y b => have := (h y).2 (by simp); simp at this
  | cons x a ih =>
    cases b with
    | nil => have := (h x).1 (by simp); simp at this
    | cons y b =>
      rw [List.pairwise_cons] at ha hb
      have e : x = y := by
        rcases List.mem_cons.1 ((h x).1 (by simp)) with e | e
        · exact e
        · rcases List.mem_cons.1 ((h y).2 (by simp)) with e' | e'
          · exact e'.symm
          · have := ha.1 y e'; have := hb.1 x e; omega
      subst e
      congr 1
      refine ih ha.2 hb.2 fun z => ?_
      constructor
      · intro hz
        rcases List.mem_cons.1 ((h z).1 (by simp [hz])) with e | e
        · subst e; have := ha.1 z hz; omega
        · exact e
      · intro hz
        rcases List.mem_cons.1 ((h z).2 (by simp [hz])) with e | e
        · subst e; have := hb.1 z hz; omega
        · exact e

theorem IsSet.ext {a b : List Int} (ha : IsSet a) (hb : IsSet b) (h : ∀ x, x ∈ a ↔ x ∈ b) : a = b := up_ext ha.up hb.up h
theorem IsSet.nil : IsSet [] := ⟨.nil, by simp⟩
theorem IsSet.one {x : Int} (h : 0 ≤ x ∧ x ≤ 1099511627776) : IsSet [x] := ⟨by simp, by simpa using h⟩
theorem IsSet.filter {a : List Int} (h : IsSet a) (p : Int → Bool) : IsSet (a.filter p) := ⟨h.up.filter p, fun x hx => h.ok x (List.mem_filter.1 hx).1⟩
theorem IsSet.tail {x : Int} {a : List Int} (h : IsSet (x :: a)) : IsSet a := ⟨(List.pairwise_cons.1 h.up).2, fun y hy => h.ok y (by simp [hy])⟩
theorem IsSet.nodup {a : List Int} (h : IsSet a) : a.Nodup := h.up.imp fun h e => by omega

theorem up_upto (n : Nat) : (upto n).Pairwise (· < ·) := by
  unfold upto
  rw [List.pairwise_map]
  exact List.pairwise_lt_range.imp fun h => by simp only [Int.ofNat_eq_natCast]; omega
theorem isSet_upto {n : Nat} (h : n ≤ 1099511627776) : IsSet (upto n) := ⟨up_upto n, fun x hx => by have := mem_upto.1 hx; omega⟩

/-- No set has more than lie below its bound. -/
theorem up_length {l : List Int} {n : Nat} (h : l.Pairwise (· < ·)) (hb : ∀ x ∈ l, 0 ≤ x ∧ x < n) : l.length ≤ n := by
  have : ∀ (l : List Int) (m : Int), l.Pairwise (· < ·) → (∀ x ∈ l, m ≤ x ∧ x < n) → m ≤ n → m + l.length ≤ n := by
    intro l
    induction l with
    | nil => intro m _ _ h; simpa using h
    | cons x l ih =>
      intro m hp hm hmn
      rw [List.pairwise_cons] at hp
      have := hm x (by simp)
      have := ih (x + 1) hp.2 (fun y hy => ⟨by have := hp.1 y hy; omega, (hm y (by simp [hy])).2⟩) (by omega)
      simp only [List.length_cons]
      omega
  have := this l 0 h hb (by omega)
  omega

theorem mem_insL {x z : Int} {l : List Int} : z ∈ insL x l ↔ z = x ∨ z ∈ l := by
  induction l with
  | nil => simp [insL]
  | cons y l ih =>
    rw [insL]
    split
    · simp
    · simp only [List.mem_cons, ih]
      constructor
      · rintro (h | h | h) <;> simp [h]
      · rintro (h | h | h) <;> simp [h]

theorem up_insL {x : Int} {l : List Int} (h : l.Pairwise (· < ·)) (hx : x ∉ l) : (insL x l).Pairwise (· < ·) := by
  induction l with
  | nil => simp [insL]
  | cons y l ih =>
    rw [List.pairwise_cons] at h
    simp only [List.mem_cons, not_or] at hx
    rw [insL]
    split
    · rename_i hxy
      rw [List.pairwise_cons, List.pairwise_cons]
      refine ⟨fun z hz => ?_, h⟩
      rcases List.mem_cons.1 hz with rfl | hz
      · exact hxy
      · have := h.1 z hz; omega
    · rename_i hxy
      rw [List.pairwise_cons]
      refine ⟨fun z hz => ?_, ih h.2 hx.2⟩
      rcases mem_insL.1 hz with rfl | hz
      · have := hx.1; omega
      · exact h.1 z hz

theorem sortR_spec (l : List Int) : IsSet (sortR l) ∧ ∀ x, x ∈ sortR l ↔ x ∈ l ∧ 0 ≤ x ∧ x ≤ 1099511627776 := by
  have : ∀ (l : List Int) (out : List Int), IsSet out → IsSet (l.foldl (fun out x => if x < 0 ∨ 1099511627776 < x ∨ x ∈ out then out else insL x out) out) ∧
      ∀ x, x ∈ (l.foldl (fun out x => if x < 0 ∨ 1099511627776 < x ∨ x ∈ out then out else insL x out) out) ↔ x ∈ out ∨ x ∈ l ∧ 0 ≤ x ∧ x ≤ 1099511627776 := by
    intro l
    induction l with
    | nil => intro out h; exact ⟨h, by simp⟩
    | cons y l ih =>
      intro out h
      simp only [List.foldl_cons]
      by_cases hy : y < 0 ∨ 1099511627776 < y ∨ y ∈ out
      · rw [if_pos hy]
        obtain ⟨h1, h2⟩ := ih out h
        refine ⟨h1, fun x => ?_⟩
        rw [h2]
        constructor
        · rintro (h | h)
          · exact .inl h
          · exact .inr ⟨by simp [h.1], h.2⟩
        · rintro (h | ⟨h, hb⟩)
          · exact .inl h
          · rcases List.mem_cons.1 h with rfl | h
            · rcases hy with hy | hy | hy
              · omega
              · omega
              · exact .inl hy
            · exact .inr ⟨h, hb⟩
      · rw [if_neg hy]
        have hyo : y ∉ out := fun h => hy (.inr (.inr h))
        obtain ⟨h1, h2⟩ := ih (insL y out) ⟨up_insL h.up hyo, fun x hx => by rcases mem_insL.1 hx with rfl | hx; (· omega); (· exact h.ok x hx)⟩
        refine ⟨h1, fun x => ?_⟩
        rw [h2, mem_insL]
        constructor
        · rintro ((h | h) | h)
          · subst h; exact .inr ⟨by simp, by omega⟩
          · exact .inl h
          · exact .inr ⟨by simp [h.1], h.2⟩
        · rintro (h | ⟨h, hb⟩)
          · exact .inl (.inr h)
          · rcases List.mem_cons.1 h with rfl | h
            · exact .inl (.inl rfl)
            · exact .inr ⟨h, hb⟩
  obtain ⟨h1, h2⟩ := this l [] .nil
  exact ⟨h1, fun x => by rw [sortR, h2]; simp⟩

theorem sortR_set {l : List Int} (h : IsSet l) : sortR l = l := (sortR_spec l).1.ext h fun x => by
  rw [(sortR_spec l).2]; exact ⟨fun h => h.1, fun hx => ⟨hx, h.ok x hx⟩⟩

theorem unionR_spec {a b : List Int} (ha : IsSet a) (hb : IsSet b) : IsSet (unionR a b) ∧ ∀ x, x ∈ unionR a b ↔ x ∈ a ∨ x ∈ b := by
  have e : unionR a b = sortR (a ++ b) := by rw [unionR, rises_iff.2 ha, rises_iff.2 hb]; rfl
  rw [e]
  refine ⟨(sortR_spec _).1, fun x => ?_⟩
  rw [(sortR_spec _).2, List.mem_append]
  constructor
  · exact fun h => h.1
  · rintro (h | h)
    · exact ⟨.inl h, ha.ok x h⟩
    · exact ⟨.inr h, hb.ok x h⟩

/-- What is taken of two sets: a set, and what is in it. -/
theorem mergeL_spec (l r c : Bool) (a b : List Int) : a.Pairwise (· < ·) → b.Pairwise (· < ·) → (mergeL l r c a b).Pairwise (· < ·) ∧
    ∀ x, x ∈ mergeL l r c a b ↔ (x ∈ a ∧ x ∉ b ∧ l = true) ∨ (x ∈ b ∧ x ∉ a ∧ r = true) ∨ (x ∈ a ∧ x ∈ b ∧ c = true) := by
  have cons : ∀ (t : Bool) (x : Int) (L : List Int), (∀ y ∈ L, x < y) → L.Pairwise (· < ·) → (if t = true then x :: L else L).Pairwise (· < ·) := by
    intro t x L h1 h2
    cases t
    · exact h2
    · exact List.pairwise_cons.2 ⟨h1, h2⟩
  have memc : ∀ (t : Bool) (x z : Int) (L : List Int), z ∈ (if t = true then x :: L else L) ↔ (t = true ∧ z = x) ∨ z ∈ L := by
    intro t x z L
    cases t <;> simp
  fun_induction mergeL l r c a b with
  | case1 => intro _ _; simp
  | case2 y bs hr ih =>
    intro ha hb
    obtain ⟨h1, h2⟩ := ih ha (List.pairwise_cons.1 hb).2
    refine ⟨List.pairwise_cons.2 ⟨fun z hz => ?_, h1⟩, fun x => ?_⟩
    · have := (h2 z).1 hz
      simp at this
      exact (List.pairwise_cons.1 hb).1 z this.1
    · rw [List.mem_cons, h2]; simp [hr]
  | case3 y bs hr ih =>
    intro ha hb
    obtain ⟨h1, h2⟩ := ih ha (List.pairwise_cons.1 hb).2
    refine ⟨h1, fun x => ?_⟩
    rw [h2]; simp [hr]
  | case4 x xs hl ih =>
    intro ha hb
    obtain ⟨h1, h2⟩ := ih (List.pairwise_cons.1 ha).2 hb
    refine ⟨List.pairwise_cons.2 ⟨fun z hz => ?_, h1⟩, fun z => ?_⟩
    · have := (h2 z).1 hz
      simp at this
      exact (List.pairwise_cons.1 ha).1 z this.1
    · rw [List.mem_cons, h2]; simp [hl]
  | case5 x xs hl ih =>
    intro ha hb
    obtain ⟨h1, h2⟩ := ih (List.pairwise_cons.1 ha).2 hb
    refine ⟨h1, fun z => ?_⟩
    rw [h2]; simp [hl]
  | case6 x xs y bs hxy hl ih =>
    intro ha hb
    obtain ⟨h1, h2⟩ := ih (List.pairwise_cons.1 ha).2 hb
    have ga := (List.pairwise_cons.1 ha).1
    have gb := (List.pairwise_cons.1 hb).1
    refine ⟨List.pairwise_cons.2 ⟨fun z hz => ?_, h1⟩, fun z => ?_⟩
    · have hz := (h2 z).1 hz
      have : z ∈ xs ∨ z = y ∨ z ∈ bs := by
        simp only [List.mem_cons] at hz
        rcases hz with h | h | h <;> simp [h]
      rcases this with h | h | h
      · exact ga z h
      · omega
      · have := gb z h; omega
    · rw [List.mem_cons, h2]
      have hx1 : x ∉ xs := fun h => by have := ga x h; omega
      have hx2 : x ∉ bs := fun h => by have := gb x h; omega
      by_cases e : z = x
      · subst e; simp [hx2, hl, show z ≠ y by omega]
      · simp [e]
  | case7 x xs y bs hxy hl ih =>
    intro ha hb
    obtain ⟨h1, h2⟩ := ih (List.pairwise_cons.1 ha).2 hb
    have ga := (List.pairwise_cons.1 ha).1
    have gb := (List.pairwise_cons.1 hb).1
    refine ⟨h1, fun z => ?_⟩
    rw [h2]
    have hx1 : x ∉ xs := fun h => by have := ga x h; omega
    have hx2 : x ∉ bs := fun h => by have := gb x h; omega
    by_cases e : z = x
    · subst e; simp [hx1, hx2, hl, show z ≠ y by omega]
    · simp [e]
  | case8 x xs y bs h0 hxy hr ih =>
    intro ha hb
    obtain ⟨h1, h2⟩ := ih ha (List.pairwise_cons.1 hb).2
    have ga := (List.pairwise_cons.1 ha).1
    have gb := (List.pairwise_cons.1 hb).1
    refine ⟨List.pairwise_cons.2 ⟨fun z hz => ?_, h1⟩, fun z => ?_⟩
    · have hz := (h2 z).1 hz
      have : (z = x ∨ z ∈ xs) ∨ z ∈ bs := by
        simp only [List.mem_cons] at hz
        rcases hz with h | h | h <;> simp [h]
      rcases this with (h | h) | h
      · omega
      · have := ga z h; omega
      · exact gb z h
    · rw [List.mem_cons, h2]
      have hx1 : y ∉ xs := fun h => by have := ga y h; omega
      have hx2 : y ∉ bs := fun h => by have := gb y h; omega
      by_cases e : z = y
      · subst e; simp [hx1, hr, show z ≠ x by omega]
      · simp [e]
  | case9 x xs y bs h0 hxy hr ih =>
    intro ha hb
    obtain ⟨h1, h2⟩ := ih ha (List.pairwise_cons.1 hb).2
    have ga := (List.pairwise_cons.1 ha).1
    have gb := (List.pairwise_cons.1 hb).1
    refine ⟨h1, fun z => ?_⟩
    rw [h2]
    have hx1 : y ∉ xs := fun h => by have := ga y h; omega
    have hx2 : y ∉ bs := fun h => by have := gb y h; omega
    by_cases e : z = y
    · subst e; simp [hx1, hx2, hr, show z ≠ x by omega]
    · simp [e]
  | case10 x xs y bs h0 h0' hc ih =>
    intro ha hb
    have exy : y = x := by omega
    subst exy
    obtain ⟨h1, h2⟩ := ih (List.pairwise_cons.1 ha).2 (List.pairwise_cons.1 hb).2
    have ga := (List.pairwise_cons.1 ha).1
    have gb := (List.pairwise_cons.1 hb).1
    refine ⟨List.pairwise_cons.2 ⟨fun z hz => ?_, h1⟩, fun z => ?_⟩
    · have hz := (h2 z).1 hz
      have : z ∈ xs ∨ z ∈ bs := by rcases hz with h | h | h <;> simp [h]
      rcases this with h | h
      · exact ga z h
      · exact gb z h
    · rw [List.mem_cons, h2]
      have hx1 : y ∉ xs := fun h => by have := ga y h; omega
      have hx2 : y ∉ bs := fun h => by have := gb y h; omega
      by_cases e : z = y
      · subst e; simp [hc]
      · simp [e]
  | case11 x xs y bs h0 h0' hc ih =>
    intro ha hb
    have exy : y = x := by omega
    subst exy
    obtain ⟨h1, h2⟩ := ih (List.pairwise_cons.1 ha).2 (List.pairwise_cons.1 hb).2
    have ga := (List.pairwise_cons.1 ha).1
    have gb := (List.pairwise_cons.1 hb).1
    refine ⟨h1, fun z => ?_⟩
    rw [h2]
    have hx1 : y ∉ xs := fun h => by have := ga y h; omega
    have hx2 : y ∉ bs := fun h => by have := gb y h; omega
    by_cases e : z = y
    · subst e; simp [hx1, hx2, hc]
    · simp [e]

section
variable {a b : List Int} (ha : IsSet a) (hb : IsSet b)
include ha hb
theorem unionL_spec : IsSet (unionL a b) ∧ ∀ x, x ∈ unionL a b ↔ x ∈ a ∨ x ∈ b := by
  rw [unionL, rises_iff.2 ha, rises_iff.2 hb]
  simp only [Bool.and_self, if_true]
  obtain ⟨h1, h2⟩ := mergeL_spec true true true a b ha.up hb.up
  have h3 : ∀ x, x ∈ mergeL true true true a b ↔ x ∈ a ∨ x ∈ b := by
    intro x; rw [h2]
    by_cases p : x ∈ a <;> by_cases q : x ∈ b <;> simp [p, q]
  exact ⟨⟨h1, fun x hx => by rcases (h3 x).1 hx with h | h; (· exact ha.ok x h); (· exact hb.ok x h)⟩, h3⟩
theorem meetL_spec : IsSet (meetL a b) ∧ ∀ x, x ∈ meetL a b ↔ x ∈ a ∧ x ∈ b := by
  rw [meetL, rises_iff.2 ha, rises_iff.2 hb]
  simp only [Bool.and_self, if_true]
  obtain ⟨h1, h2⟩ := mergeL_spec false false true a b ha.up hb.up
  have h3 : ∀ x, x ∈ mergeL false false true a b ↔ x ∈ a ∧ x ∈ b := by
    intro x; rw [h2]; simp
  exact ⟨⟨h1, fun x hx => ha.ok x ((h3 x).1 hx).1⟩, h3⟩
theorem minusL_spec : IsSet (minusL a b) ∧ ∀ x, x ∈ minusL a b ↔ x ∈ a ∧ x ∉ b := by
  rw [minusL, rises_iff.2 ha, rises_iff.2 hb]
  simp only [Bool.and_self, if_true]
  obtain ⟨h1, h2⟩ := mergeL_spec true false false a b ha.up hb.up
  have h3 : ∀ x, x ∈ mergeL true false false a b ↔ x ∈ a ∧ x ∉ b := by
    intro x; rw [h2]; simp
  exact ⟨⟨h1, fun x hx => ha.ok x ((h3 x).1 hx).1⟩, h3⟩
theorem unionL_eq : unionL a b = unionR a b := (unionL_spec ha hb).1.ext (unionR_spec ha hb).1 fun x => by rw [(unionL_spec ha hb).2, (unionR_spec ha hb).2]
theorem meetL_eq : meetL a b = a.filter (fun x => decide (x ∈ b)) := (meetL_spec ha hb).1.ext (ha.filter _) fun x => by rw [(meetL_spec ha hb).2, List.mem_filter]; simp
theorem minusL_eq : minusL a b = a.filter (fun x => !decide (x ∈ b)) := (minusL_spec ha hb).1.ext (ha.filter _) fun x => by rw [(minusL_spec ha hb).2, List.mem_filter]; simp
end
end Go.Am

namespace Go.Am
open Go
set_option linter.unusedVariables false
set_option linter.unusedSimpArgs false

/-- A set of points below n. -/
structure Pts (n : Nat) (l : List Int) : Prop where
  set : IsSet l
  lt : ∀ x ∈ l, 0 ≤ x ∧ x < n
/-- A digraph. -/
structure Gr (adj : List (List Int)) : Prop where
  len : adj.length ≤ 4096
  pts : ∀ l ∈ adj, Pts adj.length l

/-- Where arcs lead to. -/
def out (adj : List (List Int)) (x : Int) : List Int := adj.getD x.toNat []
theorem out_eq {adj : List (List Int)} {x : Int} (h : x.toNat < adj.length) : out adj x = adj[x.toNat] := by simp [out, h]
theorem out_pts {adj : List (List Int)} (h : Gr adj) (x : Int) : Pts adj.length (out adj x) := by
  unfold out
  by_cases hx : x.toNat < adj.length
  · rw [List.getD_eq_getElem?_getD, List.getElem?_eq_getElem hx]
    exact h.pts _ (List.getElem_mem _)
  · rw [List.getD_eq_getElem?_getD, List.getElem?_eq_none (by omega)]
    exact ⟨.nil, by simp⟩

theorem Pts.nil {n : Nat} : Pts n [] := ⟨.nil, by simp⟩
theorem Pts.length {n : Nat} {l : List Int} (h : Pts n l) : l.length ≤ n := up_length h.set.up h.lt
theorem Pts.union {n : Nat} {a b : List Int} (ha : Pts n a) (hb : Pts n b) : Pts n (unionR a b) :=
  ⟨(unionR_spec ha.set hb.set).1, fun x hx => by rcases ((unionR_spec ha.set hb.set).2 x).1 hx with h | h; (· exact ha.lt x h); (· exact hb.lt x h)⟩

/-- A set, and what an arc leads to from it. -/
def nearL (adj : List (List Int)) (l : List Int) : List Int := l.foldl (fun o x => unionR o (out adj x)) l

theorem near_fold {adj : List (List Int)} (hg : Gr adj) (l : List Int) : ∀ o, Pts adj.length o → Pts adj.length (l.foldl (fun o x => unionR o (out adj x)) o) ∧
    ∀ x, x ∈ l.foldl (fun o x => unionR o (out adj x)) o ↔ x ∈ o ∨ ∃ y ∈ l, x ∈ out adj y := by
  induction l with
  | nil => intro o h; exact ⟨h, by simp⟩
  | cons y l ih =>
    intro o h
    have hy := out_pts hg y
    obtain ⟨h1, h2⟩ := ih _ (h.union hy)
    refine ⟨h1, fun x => ?_⟩
    rw [List.foldl_cons, h2, (unionR_spec h.set hy.set).2]
    simp only [List.mem_cons, exists_eq_or_imp]
    exact or_assoc

theorem near_pts {adj : List (List Int)} (hg : Gr adj) {l : List Int} (h : Pts adj.length l) : Pts adj.length (nearL adj l) := (near_fold hg l l h).1
theorem mem_near {adj : List (List Int)} (hg : Gr adj) {l : List Int} (h : Pts adj.length l) {x : Int} : x ∈ nearL adj l ↔ x ∈ l ∨ ∃ y ∈ l, x ∈ out adj y := (near_fold hg l l h).2 x

def levL (adj : List (List Int)) (l : List Int) : Nat → List Int
  | 0 => l
  | k + 1 => nearL adj (levL adj l k)

section
variable {adj : List (List Int)} (hg : Gr adj) {l : List Int} (hl : Pts adj.length l)
include hg hl
theorem lev_pts (k : Nat) : Pts adj.length (levL adj l k) := by
  induction k with
  | zero => exact hl
  | succ k ih => exact near_pts hg ih
theorem mem_lev {k : Nat} {x : Int} : x ∈ levL adj l (k + 1) ↔ x ∈ levL adj l k ∨ ∃ y ∈ levL adj l k, x ∈ out adj y := mem_near hg (lev_pts hg hl k)
theorem lev_mono {j k : Nat} (h : j ≤ k) {x : Int} (hx : x ∈ levL adj l j) : x ∈ levL adj l k := by
  induction k with
  | zero => have : j = 0 := by omega
            subst this; exact hx
  | succ k ih =>
    by_cases e : j = k + 1
    · subst e; exact hx
    · exact (mem_lev hg hl).2 (.inl (ih (by omega)))
omit hg hl in
theorem lev_stop {k : Nat} (h : levL adj l (k + 1) = levL adj l k) (j : Nat) : levL adj l (k + j) = levL adj l k := by
  induction j with
  | zero => rfl
  | succ j ih =>
    show nearL adj (levL adj l (k + j)) = _
    rw [ih]; exact h
theorem lev_grow (k : Nat) : (∃ j, j < k ∧ levL adj l (j + 1) = levL adj l j) ∨ l.length + k ≤ (levL adj l k).length := by
  induction k with
  | zero => exact .inr (by simp [levL])
  | succ k ih =>
    rcases ih with ⟨j, hj, h⟩ | h
    · exact .inl ⟨j, by omega, h⟩
    · by_cases e : levL adj l (k + 1) = levL adj l k
      · exact .inl ⟨k, by omega, e⟩
      · refine .inr ?_
        have hp := lev_pts hg hl k
        have hp' := lev_pts hg hl (k + 1)
        have : ∃ x, x ∈ levL adj l (k + 1) ∧ x ∉ levL adj l k := by
          refine Classical.byContradiction fun hno => e (hp'.set.ext hp.set fun x => ⟨fun hx => Classical.byContradiction fun hx' => hno ⟨x, hx, hx'⟩, fun hx => lev_mono hg hl (by omega) hx⟩)
        obtain ⟨x, hx, hx'⟩ := this
        have h1 := filter_grow (p := fun x => decide (x ∈ levL adj l k)) (q := fun _ => true) (l := levL adj l (k + 1)) (x := x) (fun _ _ => rfl) hx (by simpa using hx') rfl
        have h2 : (levL adj l (k + 1)).filter (fun x => decide (x ∈ levL adj l k)) = levL adj l k :=
          (hp'.set.filter _).ext hp.set fun y => by
            rw [List.mem_filter]
            exact ⟨fun h => by simpa using h.2, fun h => ⟨lev_mono hg hl (by omega) h, by simpa using h⟩⟩
        rw [h2, List.filter_eq_self.2 (fun _ _ => rfl)] at h1
        omega
theorem lev_all {k : Nat} (hk : adj.length ≤ k) : levL adj l k = levL adj l adj.length := by
  by_cases hnil : l = []
  · subst hnil
    have : ∀ k, levL adj [] k = [] := by
      intro k
      induction k with
      | zero => rfl
      | succ k ih => show nearL adj (levL adj [] k) = []; rw [ih]; rfl
    rw [this, this]
  · have hpos := List.length_pos_iff.2 hnil
    have hlen := (lev_pts hg hl adj.length).length
    rcases lev_grow hg hl adj.length with ⟨j, hj, h⟩ | h
    · have h1 := lev_stop h (k - j)
      have h2 := lev_stop h (adj.length - j)
      rw [show j + (k - j) = k by omega] at h1
      rw [show j + (adj.length - j) = adj.length by omega] at h2
      rw [h1, h2]
    · omega
theorem lev_le {k : Nat} {x : Int} (h : x ∈ levL adj l k) : x ∈ levL adj l adj.length := by
  rcases Nat.le_total k adj.length with hk | hk
  · exact lev_mono hg hl hk h
  · rwa [lev_all hg hl hk] at h
end

/-- How far a point is away from some; -1: one does not come to it. -/
def distL (adj : List (List Int)) (l : List Int) (v : Int) : Int :=
  match (List.range (adj.length + 1)).find? fun k => decide (v ∈ levL adj l k) with
  | some k => k
  | none => -1

theorem find_range {p : Nat → Bool} {n : Nat} : (∃ k, k < n ∧ (List.range n).find? p = some k ∧ p k = true ∧ ∀ j, j < k → p j = false) ∨ ((List.range n).find? p = none ∧ ∀ j, j < n → p j = false) := by
  induction n with
  | zero => exact .inr ⟨rfl, by omega⟩
  | succ n ih =>
    rw [List.range_succ, List.find?_append]
    rcases ih with ⟨k, h1, h2, h3, h4⟩ | ⟨h1, h2⟩
    · exact .inl ⟨k, by omega, by rw [h2]; rfl, h3, h4⟩
    · rw [h1]
      cases hp : p n with
      | true => exact .inl ⟨n, by omega, by simp [hp], hp, h2⟩
      | false => exact .inr ⟨by simp [hp], fun j hj => by by_cases e : j = n; (· subst e; exact hp); (· exact h2 j (by omega))⟩

section
variable {adj : List (List Int)} (hg : Gr adj) {l : List Int} (hl : Pts adj.length l) {v : Int}
include hg hl
theorem dist_cases : (∃ d : Nat, d ≤ adj.length ∧ distL adj l v = d ∧ v ∈ levL adj l d ∧ ∀ j, j < d → v ∉ levL adj l j) ∨ (distL adj l v = -1 ∧ ∀ j, v ∉ levL adj l j) := by
  unfold distL
  rcases find_range (p := fun k => decide (v ∈ levL adj l k)) (n := adj.length + 1) with ⟨k, h1, h2, h3, h4⟩ | ⟨h1, h2⟩
  · rw [h2]
    exact .inl ⟨k, by omega, rfl, by simpa using h3, fun j hj => by simpa using h4 j hj⟩
  · rw [h1]
    refine .inr ⟨rfl, fun j hj => ?_⟩
    have := h2 adj.length (by omega)
    simp only [decide_eq_false_iff_not] at this
    exact this (lev_le hg hl hj)
theorem dist_le {k : Nat} (h : v ∈ levL adj l k) : 0 ≤ distL adj l v ∧ distL adj l v ≤ k := by
  rcases dist_cases hg hl (v := v) with ⟨d, h1, h2, h3, h4⟩ | ⟨h1, h2⟩
  · rw [h2]
    refine ⟨by omega, ?_⟩
    rcases Nat.lt_or_ge k d with hk | hk
    · exact absurd h (h4 k hk)
    · omega
  · exact absurd h (h2 k)
theorem dist_neg : distL adj l v = -1 ↔ v ∉ levL adj l adj.length := by
  rcases dist_cases hg hl (v := v) with ⟨d, h1, h2, h3, h4⟩ | ⟨h1, h2⟩
  · rw [h2]
    constructor
    · intro h; omega
    · intro h; exact absurd (lev_mono hg hl h1 h3) h
  · rw [h1]; simp [h2]

/-- Numbers that a search ends with are the distances. -/
theorem dist_of {f : Int → Int} (ha : ∀ x : Int, 0 ≤ x → x < adj.length → f x ≠ -1 → 0 ≤ f x ∧ x ∈ levL adj l (f x).toNat) (hb : ∀ x ∈ l, f x = 0)
    (hc : ∀ x : Int, 0 ≤ x → x < adj.length → f x ≠ -1 → ∀ y ∈ out adj x, f y ≠ -1 ∧ f y ≤ f x + 1) (h0 : 0 ≤ v) (h1 : v < adj.length) : f v = distL adj l v := by
  have key : ∀ k x, x ∈ levL adj l k → f x ≠ -1 ∧ f x ≤ k := by
    intro k
    induction k with
    | zero => intro x hx; have := hb x hx; omega
    | succ k ih =>
      intro x hx
      rcases (mem_lev hg hl).1 hx with hx | ⟨y, hy, hx⟩
      · have := ih x hx; omega
      · have hy' := ih y hy
        have hp := (lev_pts hg hl k).lt y hy
        have := hc y hp.1 hp.2 hy'.1 x hx
        omega
  rcases dist_cases hg hl (v := v) with ⟨d, h2, h3, h4, h5⟩ | ⟨h2, h3⟩
  · have hk := key d v h4
    obtain ⟨p, q⟩ := ha v h0 h1 hk.1
    have := dist_le hg hl q
    rw [h3] at this ⊢
    omega
  · rw [h2]
    refine Classical.byContradiction fun h => ?_
    exact h3 _ (ha v h0 h1 h).2
end

/-- The state of a search by a queue. -/
structure BInv (adj : List (List Int)) (l : List Int) (f : Int → Int) (q : List Int) : Prop where
  vis : ∀ x : Int, 0 ≤ x → x < adj.length → f x ≠ -1 → 0 ≤ f x ∧ x ∈ levL adj l (f x).toNat
  src : ∀ x ∈ l, f x = 0
  qv : ∀ x ∈ q, 0 ≤ x ∧ x < adj.length ∧ f x ≠ -1
  up : q.Pairwise fun x y => f x ≤ f y
  near : ∀ x ∈ q, ∀ y ∈ q, f y ≤ f x + 1
  done : ∀ x : Int, 0 ≤ x → x < adj.length → f x ≠ -1 → x ∉ q → (∀ y ∈ q, f x ≤ f y) ∧ ∀ w ∈ out adj x, f w ≠ -1 ∧ f w ≤ f x + 1

/-- The same while the arcs of v are gone through, ws of them so far. -/
structure BMid (adj : List (List Int)) (l : List Int) (v : Int) (ws : List Int) (f : Int → Int) (q : List Int) : Prop where
  vis : ∀ x : Int, 0 ≤ x → x < adj.length → f x ≠ -1 → 0 ≤ f x ∧ x ∈ levL adj l (f x).toNat
  src : ∀ x ∈ l, f x = 0
  qv : ∀ x ∈ q, 0 ≤ x ∧ x < adj.length ∧ f x ≠ -1
  up : q.Pairwise fun x y => f x ≤ f y
  vv : 0 ≤ v ∧ v < adj.length ∧ f v ≠ -1
  near : ∀ y ∈ q, f v ≤ f y ∧ f y ≤ f v + 1
  done : ∀ x : Int, 0 ≤ x → x < adj.length → f x ≠ -1 → x ∉ q → x ≠ v → f x ≤ f v ∧ ∀ w ∈ out adj x, f w ≠ -1 ∧ f w ≤ f x + 1
  ws : ∀ w ∈ ws, f w ≠ -1 ∧ f w ≤ f v + 1

theorem BInv.pop {adj : List (List Int)} {l : List Int} {f : Int → Int} {v : Int} {q : List Int} (h : BInv adj l f (v :: q)) : BMid adj l v [] f q := by
  refine ⟨h.vis, h.src, fun x hx => h.qv x (by simp [hx]), (List.pairwise_cons.1 h.up).2, h.qv v (by simp), fun y hy => ⟨(List.pairwise_cons.1 h.up).1 y hy, h.near v (by simp) y (by simp [hy])⟩, fun x h0 h1 h2 h3 h4 => ?_, by simp⟩
  have := h.done x h0 h1 h2 (by simp [h3, h4])
  exact ⟨this.1 v (by simp), this.2⟩

theorem BMid.end {adj : List (List Int)} {l : List Int} {f : Int → Int} {v : Int} {q : List Int} (h : BMid adj l v (out adj v) f q) : BInv adj l f q := by
  refine ⟨h.vis, h.src, h.qv, h.up, fun x hx y hy => by have := h.near x hx; have := h.near y hy; omega, fun x h0 h1 h2 h3 => ?_⟩
  by_cases e : x = v
  · subst e
    exact ⟨fun y hy => (h.near y hy).1, h.ws⟩
  · have := h.done x h0 h1 h2 h3 e
    exact ⟨fun y hy => by have := h.near y hy; omega, this.2⟩

theorem BMid.old {adj : List (List Int)} {l : List Int} {f : Int → Int} {v w : Int} {ws q : List Int} (h : BMid adj l v ws f q) (hw : 0 ≤ w ∧ w < adj.length) (hf : f w ≠ -1) : BMid adj l v (ws ++ [w]) f q := by
  refine ⟨h.vis, h.src, h.qv, h.up, h.vv, h.near, h.done, fun x hx => ?_⟩
  rcases List.mem_append.1 hx with hx | hx
  · exact h.ws x hx
  · simp at hx; subst hx
    refine ⟨hf, ?_⟩
    by_cases hq : x ∈ q
    · exact (h.near x hq).2
    · by_cases e : x = v
      · subst e; omega
      · have := (h.done x hw.1 hw.2 hf hq e).1; omega

theorem BMid.new {adj : List (List Int)} (hg : Gr adj) {l : List Int} (hl : Pts adj.length l) {f : Int → Int} {v w : Int} {ws q : List Int} (h : BMid adj l v ws f q) (hw : w ∈ out adj v) (hf : f w = -1) :
    BMid adj l v (ws ++ [w]) (fun x => if x = w then f v + 1 else f x) (q ++ [w]) := by
  have hwp := (out_pts hg v).lt w hw
  have hwq : w ∉ q := fun hq => (h.qv w hq).2.2 hf
  have hwv : v ≠ w := fun e => h.vv.2.2 (e ▸ hf)
  have hne : ∀ x, f x ≠ -1 → (if x = w then f v + 1 else f x) = f x := fun x hx => by rw [if_neg]; rintro rfl; exact hx hf
  have hfv := hne v h.vv.2.2
  have hv0 := (h.vis v h.vv.1 h.vv.2.1 h.vv.2.2)
  refine ⟨fun x h0 h1 h2 => ?_, fun x hx => ?_, fun x hx => ?_, ?_, ⟨h.vv.1, h.vv.2.1, by rw [hfv]; exact h.vv.2.2⟩, fun y hy => ?_, fun x h0 h1 h2 h3 h4 => ?_, fun x hx => ?_⟩
  · (try simp only at h2 ⊢)
    by_cases e : x = w
    · subst e
      rw [if_pos rfl]
      refine ⟨by omega, ?_⟩
      rw [show (f v + 1).toNat = (f v).toNat + 1 by omega]
      exact (mem_lev hg hl).2 (.inr ⟨v, hv0.2, hw⟩)
    · rw [if_neg e] at h2 ⊢; exact h.vis x h0 h1 h2
  · have := h.src x hx
    rw [hne x (by omega)]; exact this
  · rcases List.mem_append.1 hx with hx | hx
    · have := h.qv x hx
      rw [hne x this.2.2]; exact this
    · simp at hx; subst hx
      rw [if_pos rfl]; exact ⟨hwp.1, hwp.2, by omega⟩
  · rw [List.pairwise_append]
    refine ⟨h.up.imp_of_mem ?_, by simp, ?_⟩
    · intro x y hx hy hxy
      rw [hne x (h.qv x hx).2.2, hne y (h.qv y hy).2.2]; exact hxy
    · intro x hx y hy
      simp at hy; subst hy
      rw [hne x (h.qv x hx).2.2, if_pos rfl]
      exact (h.near x hx).2
  · rw [hfv]
    rcases List.mem_append.1 hy with hy | hy
    · rw [hne y (h.qv y hy).2.2]; exact h.near y hy
    · simp at hy; subst hy
      rw [if_pos rfl]; omega
  · (try simp only at h2 ⊢)
    have hxw : x ≠ w := fun e => h3 (by simp [e])
    rw [if_neg hxw] at h2 ⊢
    have := h.done x h0 h1 h2 (fun hq => h3 (by simp [hq])) h4
    rw [hfv]
    exact ⟨this.1, fun z hz => by have := this.2 z hz; rw [hne z this.1]; exact this⟩
  · rw [hfv]
    rcases List.mem_append.1 hx with hx | hx
    · have := h.ws x hx; rw [hne x this.1]; exact this
    · simp at hx; subst hx
      rw [if_pos rfl]
      exact ⟨by omega, by omega⟩

theorem BInv.start {adj : List (List Int)} {l : List Int} (hl : Pts adj.length l) : BInv adj l (fun x => if x ∈ l then 0 else -1) l := by
  refine ⟨fun x h0 h1 h2 => ?_, fun x hx => by simp [hx], fun x hx => ⟨(hl.lt x hx).1, (hl.lt x hx).2, by simp [hx]⟩, ?_, fun x hx y hy => by simp [hx, hy], fun x h0 h1 h2 h3 => by simp [h3] at h2⟩
  · by_cases hx : x ∈ l
    · simp [hx, levL]
    · simp [hx] at h2
  · exact List.pairwise_iff_forall_sublist.2 fun {a b} h => by
      have ha := h.subset (show a ∈ [a, b] by simp)
      have hb := h.subset (show b ∈ [a, b] by simp)
      simp [ha, hb]

theorem BInv.fin {adj : List (List Int)} (hg : Gr adj) {l : List Int} (hl : Pts adj.length l) {f : Int → Int} (h : BInv adj l f []) {x : Int} (h0 : 0 ≤ x) (h1 : x < adj.length) : f x = distL adj l x :=
  dist_of hg hl h.vis h.src (fun x h0 h1 h2 => (h.done x h0 h1 h2 (by simp)).2) h0 h1

/-- How many points are not found yet. -/
def unfound (n : Nat) (f : Int → Int) : Nat := ((upto n).filter fun x => decide (f x = -1)).length
theorem unfound_new {n : Nat} {f : Int → Int} {w y : Int} (hw : 0 ≤ w ∧ w < n) (hf : f w = -1) (hy : y ≠ -1) : unfound n (fun x => if x = w then y else f x) + 1 = unfound n f := by
  have : ∀ l : List Int, l.Nodup → w ∈ l → (l.filter fun x => decide ((if x = w then y else f x) = -1)).length + 1 = (l.filter fun x => decide (f x = -1)).length := by
    intro l
    induction l with
    | nil => intro _ h; simp at h
    | cons z l ih =>
      intro hd hm
      rw [List.nodup_cons] at hd
      rw [List.filter_cons, List.filter_cons]
      by_cases e : z = w
      · subst e
        rw [if_pos rfl, hf]
        have hc : l.filter (fun x => decide ((if x = z then y else f x) = -1)) = l.filter fun x => decide (f x = -1) := by
          apply List.filter_congr
          intro x hx
          have : x ≠ z := fun e => hd.1 (e ▸ hx)
          rw [if_neg this]
        rw [hc]
        simp [hy]
      · rw [if_neg e]
        have := ih hd.2 ((List.mem_cons.1 hm).resolve_left fun h => e h.symm)
        by_cases hz : f z = -1
        · simp only [hz, decide_true, if_true, List.length_cons]; omega
        · simp only [hz, decide_false, Bool.false_eq_true, if_false]; omega
  exact this _ ((up_upto n).imp fun h e => by omega) (mem_upto.2 hw)
end Go.Am
