/- Plain: lists that rise are sets; what is sorted, united, met, taken away. -/
import Derived.Test.YtbcgjjkchmgeoaaW5
namespace Go.Am
open Go
set_option linter.unusedVariables false
set_option linter.unusedSimpArgs false

/-- A list that rises, of numbers that may be. -/
structure IsSet (l : List Int) : Prop where
  up : l.Pairwise (· < ·)
  ok : ∀ x ∈ l, 0 ≤ x ∧ x ≤ 1099511627776

theorem rises_iff' {l : List Int} {last : Int} : risesB last l = true ↔ l.Pairwise (· < ·) ∧ ∀ x ∈ l, last < x ∧ x ≤ 1099511627776 := by
  induction l generalizing last with
  | nil => simp [risesB]
  | cons y l ih =>
    simp only [risesB, Bool.and_eq_true, decide_eq_true_eq, ih, List.pairwise_cons, List.mem_cons]
    constructor
    · rintro ⟨⟨h1, h2⟩, h3, h4⟩
      exact ⟨⟨fun x hx => (h4 x hx).1, h3⟩, fun x hx => hx.elim (fun e => by subst e; exact ⟨h1, h2⟩) fun hx => ⟨by have := (h4 x hx).1; omega, (h4 x hx).2⟩⟩
    · rintro ⟨⟨h1, h2⟩, h3⟩
      exact ⟨⟨(h3 y (.inl rfl)).1, (h3 y (.inl rfl)).2⟩, h2, fun x hx => ⟨h1 x hx, (h3 x (.inr hx)).2⟩⟩

theorem rises_iff {l : List Int} : risesB (-1) l = true ↔ IsSet l := by
  rw [rises_iff']
  exact ⟨fun h => ⟨h.1, fun x hx => by have := h.2 x hx; omega⟩, fun h => ⟨h.up, fun x hx => by have := h.ok x hx; omega⟩⟩

theorem up_ext {a b : List Int} (ha : a.Pairwise (· < ·)) (hb : b.Pairwise (· < ·)) (h : ∀ x, x ∈ a ↔ x ∈ b) : a = b := by
  induction a generalizing b with
  | nil =>
    cases b with
    | nil => rfl
    | cons y b => have := (h y).2 (by simp); simp at this
  | cons x a ih =>
    cases b with
    | nil => have := (h x).1 (by simp); simp at this
    | cons y b =>
      rw [List.pairwise_cons] at ha hb
      have e : x = y := by
        rcases List.mem_cons.1 ((h x).1 (by simp)) with e | e
        · exact e
        · rcases List.mem_cons.1 ((h y).2 (by simp)) with e' | e'
          · exact e'.symm
          · have := ha.1 y e'; have := hb.1 x e; omega
      subst e
      congr 1
      refine ih ha.2 hb.2 fun z => ?_
      constructor
      · intro hz
        rcases List.mem_cons.1 ((h z).1 (by simp [hz])) with e | e
        · subst e; have := ha.1 z hz; omega
        · exact e
      · intro hz
        rcases List.mem_cons.1 ((h z).2 (by simp [hz])) with e | e
        · subst e; have := hb.1 z hz; omega
        · exact e

theorem IsSet.ext {a b : List Int} (ha : IsSet a) (hb : IsSet b) (h : ∀ x, x ∈ a ↔ x ∈ b) : a = b := up_ext ha.up hb.up h
theorem IsSet.nil : IsSet [] := ⟨.nil, by simp⟩
theorem IsSet.one {x : Int} (h : 0 ≤ x ∧ x ≤ 1099511627776) : IsSet [x] := ⟨by simp, by simpa using h⟩
theorem IsSet.filter {a : List Int} (h : IsSet a) (p : Int → Bool) : IsSet (a.filter p) := ⟨h.up.filter p, fun x hx => h.ok x (List.mem_filter.1 hx).1⟩
theorem IsSet.tail {x : Int} {a : List Int} (h : IsSet (x :: a)) : IsSet a := ⟨(List.pairwise_cons.1 h.up).2, fun y hy => h.ok y (by simp [hy])⟩
theorem IsSet.nodup {a : List Int} (h : IsSet a) : a.Nodup := h.up.imp fun h e => by omega

theorem up_upto (n : Nat) : (upto n).Pairwise (· < ·) := by
  unfold upto
  rw [List.pairwise_map]
  exact List.pairwise_lt_range.imp fun h => by simp only [Int.ofNat_eq_natCast]; omega
theorem isSet_upto {n : Nat} (h : n ≤ 1099511627776) : IsSet (upto n) := ⟨up_upto n, fun x hx => by have := mem_upto.1 hx; omega⟩

/-- No set has more than lie below its bound. -/
theorem up_length {l : List Int} {n : Nat} (h : l.Pairwise (· < ·)) (hb : ∀ x ∈ l, 0 ≤ x ∧ x < n) : l.length ≤ n := by
  have : ∀ (l : List Int) (m : Int), l.Pairwise (· < ·) → (∀ x ∈ l, m ≤ x ∧ x < n) → m ≤ n → m + l.length ≤ n := by
    intro l
    induction l with
    | nil => intro m _ _ h; simpa using h
    | cons x l ih =>
      intro m hp hm hmn
      rw [List.pairwise_cons] at hp
      have := hm x (by simp)
      have := ih (x + 1) hp.2 (fun y hy => ⟨by have := hp.1 y hy; omega, (hm y (by simp [hy])).2⟩) (by omega)
      simp only [List.length_cons]
      omega
  have := this l 0 h hb (by omega)
  omega

theorem mem_insL {x z : Int} {l : List Int} : z ∈ insL x l ↔ z = x ∨ z ∈ l := by
  induction l with
  | nil => simp [insL]
  | cons y l ih =>
    rw [insL]
    split
    · simp
    · simp only [List.mem_cons, ih]
      constructor
      · rintro (h | h | h) <;> simp [h]
      · rintro (h | h | h) <;> simp [h]

theorem up_insL {x : Int} {l : List Int} (h : l.Pairwise (· < ·)) (hx : x ∉ l) : (insL x l).Pairwise (· < ·) := by
  induction l with
  | nil => simp [insL]
  | cons y l ih =>
    rw [List.pairwise_cons] at h
    simp only [List.mem_cons, not_or] at hx
    rw [insL]
    split
    · rename_i hxy
      rw [List.pairwise_cons, List.pairwise_cons]
      refine ⟨fun z hz => ?_, h⟩
      rcases List.mem_cons.1 hz with rfl | hz
      · exact hxy
      · have := h.1 z hz; omega
    · rename_i hxy
      rw [List.pairwise_cons]
      refine ⟨fun z hz => ?_, ih h.2 hx.2⟩
      rcases mem_insL.1 hz with rfl | hz
      · have := hx.1; omega
      · exact h.1 z hz

theorem sortR_spec (l : List Int) : IsSet (sortR l) ∧ ∀ x, x ∈ sortR l ↔ x ∈ l ∧ 0 ≤ x ∧ x ≤ 1099511627776 := by
  have : ∀ (l : List Int) (out : List Int), IsSet out → IsSet (l.foldl (fun out x => if x < 0 ∨ 1099511627776 < x ∨ x ∈ out then out else insL x out) out) ∧
      ∀ x, x ∈ (l.foldl (fun out x => if x < 0 ∨ 1099511627776 < x ∨ x ∈ out then out else insL x out) out) ↔ x ∈ out ∨ x ∈ l ∧ 0 ≤ x ∧ x ≤ 1099511627776 := by
    intro l
    induction l with
    | nil => intro out h; exact ⟨h, by simp⟩
    | cons y l ih =>
      intro out h
      simp only [List.foldl_cons]
      by_cases hy : y < 0 ∨ 1099511627776 < y ∨ y ∈ out
      · rw [if_pos hy]
        obtain ⟨h1, h2⟩ := ih out h
        refine ⟨h1, fun x => ?_⟩
        rw [h2]
        constructor
        · rintro (h | h)
          · exact .inl h
          · exact .inr ⟨by simp [h.1], h.2⟩
        · rintro (h | ⟨h, hb⟩)
          · exact .inl h
          · rcases List.mem_cons.1 h with rfl | h
            · rcases hy with hy | hy | hy
              · omega
              · omega
              · exact .inl hy
            · exact .inr ⟨h, hb⟩
      · rw [if_neg hy]
        have hyo : y ∉ out := fun h => hy (.inr (.inr h))
        obtain ⟨h1, h2⟩ := ih (insL y out) ⟨up_insL h.up hyo, fun x hx => by rcases mem_insL.1 hx with rfl | hx; (· omega); (· exact h.ok x hx)⟩
        refine ⟨h1, fun x => ?_⟩
        rw [h2, mem_insL]
        constructor
        · rintro ((h | h) | h)
          · subst h; exact .inr ⟨by simp, by omega⟩
          · exact .inl h
          · exact .inr ⟨by simp [h.1], h.2⟩
        · rintro (h | ⟨h, hb⟩)
          · exact .inl (.inr h)
          · rcases List.mem_cons.1 h with rfl | h
            · exact .inl (.inl rfl)
            · exact .inr ⟨h, hb⟩
  obtain ⟨h1, h2⟩ := this l [] .nil
  exact ⟨h1, fun x => by rw [sortR, h2]; simp⟩

theorem sortR_set {l : List Int} (h : IsSet l) : sortR l = l := (sortR_spec l).1.ext h fun x => by
  rw [(sortR_spec l).2]; exact ⟨fun h => h.1, fun hx => ⟨hx, h.ok x hx⟩⟩

theorem unionR_spec {a b : List Int} (ha : IsSet a) (hb : IsSet b) : IsSet (unionR a b) ∧ ∀ x, x ∈ unionR a b ↔ x ∈ a ∨ x ∈ b := by
  have e : unionR a b = sortR (a ++ b) := by rw [unionR, rises_iff.2 ha, rises_iff.2 hb]; rfl
  rw [e]
  refine ⟨(sortR_spec _).1, fun x => ?_⟩
  rw [(sortR_spec _).2, List.mem_append]
  constructor
  · exact fun h => h.1
  · rintro (h | h)
    · exact ⟨.inl h, ha.ok x h⟩
    · exact ⟨.inr h, hb.ok x h⟩

/-- What is taken of two sets: a set, and what is in it. -/
theorem mergeL_spec (l r c : Bool) (a b : List Int) : a.Pairwise (· < ·) → b.Pairwise (· < ·) → (mergeL l r c a b).Pairwise (· < ·) ∧
    ∀ x, x ∈ mergeL l r c a b ↔ (x ∈ a ∧ x ∉ b ∧ l = true) ∨ (x ∈ b ∧ x ∉ a ∧ r = true) ∨ (x ∈ a ∧ x ∈ b ∧ c = true) := by
  have cons : ∀ (t : Bool) (x : Int) (L : List Int), (∀ y ∈ L, x < y) → L.Pairwise (· < ·) → (if t = true then x :: L else L).Pairwise (· < ·) := by
    intro t x L h1 h2
    cases t
    · exact h2
    · exact List.pairwise_cons.2 ⟨h1, h2⟩
  have memc : ∀ (t : Bool) (x z : Int) (L : List Int), z ∈ (if t = true then x :: L else L) ↔ (t = true ∧ z = x) ∨ z ∈ L := by
    intro t x z L
    cases t <;> simp
  fun_induction mergeL l r c a b with
  | case1 => intro _ _; simp
  | case2 y bs hr ih =>
    intro ha hb
    obtain ⟨h1, h2⟩ := ih ha (List.pairwise_cons.1 hb).2
    refine ⟨List.pairwise_cons.2 ⟨fun z hz => ?_, h1⟩, fun x => ?_⟩
    · have := (h2 z).1 hz
      simp at this
      exact (List.pairwise_cons.1 hb).1 z this.1
    · rw [List.mem_cons, h2]; simp [hr]
  | case3 y bs hr ih =>
    intro ha hb
    obtain ⟨h1, h2⟩ := ih ha (List.pairwise_cons.1 hb).2
    refine ⟨h1, fun x => ?_⟩
    rw [h2]; simp [hr]
  | case4 x xs hl ih =>
    intro ha hb
    obtain ⟨h1, h2⟩ := ih (List.pairwise_cons.1 ha).2 hb
    refine ⟨List.pairwise_cons.2 ⟨fun z hz => ?_, h1⟩, fun z => ?_⟩
    · have := (h2 z).1 hz
      simp at this
      exact (List.pairwise_cons.1 ha).1 z this.1
    · rw [List.mem_cons, h2]; simp [hl]
  | case5 x xs hl ih =>
    intro ha hb
    obtain ⟨h1, h2⟩ := ih (List.pairwise_cons.1 ha).2 hb
    refine ⟨h1, fun z => ?_⟩
    rw [h2]; simp [hl]
  | case6 x xs y bs hxy hl ih =>
    intro ha hb
    obtain ⟨h1, h2⟩ := ih (List.pairwise_cons.1 ha).2 hb
    have ga := (List.pairwise_cons.1 ha).1
    have gb := (List.pairwise_cons.1 hb).1
    refine ⟨List.pairwise_cons.2 ⟨fun z hz => ?_, h1⟩, fun z => ?_⟩
    · have hz := (h2 z).1 hz
      have : z ∈ xs ∨ z = y ∨ z ∈ bs := by
        simp only [List.mem_cons] at hz
        rcases hz with h | h | h <;> simp [h]
      rcases this with h | h | h
      · exact ga z h
      · omega
      · have := gb z h; omega
    · rw [List.mem_cons, h2]
      have hx1 : x ∉ xs := fun h => by have := ga x h; omega
      have hx2 : x ∉ bs := fun h => by have := gb x h; omega
      by_cases e : z = x
      · subst e; simp [hx2, hl, show z ≠ y by omega]
      · simp [e]
  | case7 x xs y bs hxy hl ih =>
    intro ha hb
    obtain ⟨h1, h2⟩ := ih (List.pairwise_cons.1 ha).2 hb
    have ga := (List.pairwise_cons.1 ha).1
    have gb := (List.pairwise_cons.1 hb).1
    refine ⟨h1, fun z => ?_⟩
    rw [h2]
    have hx1 : x ∉ xs := fun h => by have := ga x h; omega
    have hx2 : x ∉ bs := fun h => by have := gb x h; omega
    by_cases e : z = x
    · subst e; simp [hx1, hx2, hl, show z ≠ y by omega]
    · simp [e]
  | case8 x xs y bs h0 hxy hr ih =>
    intro ha hb
    obtain ⟨h1, h2⟩ := ih ha (List.pairwise_cons.1 hb).2
    have ga := (List.pairwise_cons.1 ha).1
    have gb := (List.pairwise_cons.1 hb).1
    refine ⟨List.pairwise_cons.2 ⟨fun z hz => ?_, h1⟩, fun z => ?_⟩
    · have hz := (h2 z).1 hz
      have : (z = x ∨ z ∈ xs) ∨ z ∈ bs := by
        simp only [List.mem_cons] at hz
        rcases hz with h | h | h <;> simp [h]
      rcases this with (h | h) | h
      · omega
      · have := ga z h; omega
      · exact gb z h
    · rw [List.mem_cons, h2]
      have hx1 : y ∉ xs := fun h => by have := ga y h; omega
      have hx2 : y ∉ bs := fun h => by have := gb y h; omega
      by_cases e : z = y
      · subst e; simp [hx1, hr, show z ≠ x by omega]
      · simp [e]
  | case9 x xs y bs h0 hxy hr ih =>
    intro ha hb
    obtain ⟨h1, h2⟩ := ih ha (List.pairwise_cons.1 hb).2
    have ga := (List.pairwise_cons.1 ha).1
    have gb := (List.pairwise_cons.1 hb).1
    refine ⟨h1, fun z => ?_⟩
    rw [h2]
    have hx1 : y ∉ xs := fun h => by have := ga y h; omega
    have hx2 : y ∉ bs := fun h => by have := gb y h; omega
    by_cases e : z = y
    · subst e; simp [hx1, hx2, hr, show z ≠ x by omega]
    · simp [e]
  | case10 x xs y bs h0 h0' hc ih =>
    intro ha hb
    have exy : y = x := by omega
    subst exy
    obtain ⟨h1, h2⟩ := ih (List.pairwise_cons.1 ha).2 (List.pairwise_cons.1 hb).2
    have ga := (List.pairwise_cons.1 ha).1
    have gb := (List.pairwise_cons.1 hb).1
    refine ⟨List.pairwise_cons.2 ⟨fun z hz => ?_, h1⟩, fun z => ?_⟩
    · have hz := (h2 z).1 hz
      have : z ∈ xs ∨ z ∈ bs := by rcases hz with h | h | h <;> simp [h]
      rcases this with h | h
      · exact ga z h
      · exact gb z h
    · rw [List.mem_cons, h2]
      have hx1 : y ∉ xs := fun h => by have := ga y h; omega
      have hx2 : y ∉ bs := fun h => by have := gb y h; omega
      by_cases e : z = y
      · subst e; simp [hc]
      · simp [e]
  | case11 x xs y bs h0 h0' hc ih =>
    intro ha hb
    have exy : y = x := by omega
    subst exy
    obtain ⟨h1, h2⟩ := ih (List.pairwise_cons.1 ha).2 (List.pairwise_cons.1 hb).2
    have ga := (List.pairwise_cons.1 ha).1
    have gb := (List.pairwise_cons.1 hb).1
    refine ⟨h1, fun z => ?_⟩
    rw [h2]
    have hx1 : y ∉ xs := fun h => by have := ga y h; omega
    have hx2 : y ∉ bs := fun h => by have := gb y h; omega
    by_cases e : z = y
    · subst e; simp [hx1, hx2, hc]
    · simp [e]

section
variable {a b : List Int} (ha : IsSet a) (hb : IsSet b)
include ha hb
theorem unionL_spec : IsSet (unionL a b) ∧ ∀ x, x ∈ unionL a b ↔ x ∈ a ∨ x ∈ b := by
  rw [unionL, rises_iff.2 ha, rises_iff.2 hb]
  simp only [Bool.and_self, if_true]
  obtain ⟨h1, h2⟩ := mergeL_spec true true true a b ha.up hb.up
  have h3 : ∀ x, x ∈ mergeL true true true a b ↔ x ∈ a ∨ x ∈ b := by
    intro x; rw [h2]
    by_cases p : x ∈ a <;> by_cases q : x ∈ b <;> simp [p, q]
  exact ⟨⟨h1, fun x hx => by rcases (h3 x).1 hx with h | h; (· exact ha.ok x h); (· exact hb.ok x h)⟩, h3⟩
theorem meetL_spec : IsSet (meetL a b) ∧ ∀ x, x ∈ meetL a b ↔ x ∈ a ∧ x ∈ b := by
  rw [meetL, rises_iff.2 ha, rises_iff.2 hb]
  simp only [Bool.and_self, if_true]
  obtain ⟨h1, h2⟩ := mergeL_spec false false true a b ha.up hb.up
  have h3 : ∀ x, x ∈ mergeL false false true a b ↔ x ∈ a ∧ x ∈ b := by
    intro x; rw [h2]; simp
  exact ⟨⟨h1, fun x hx => ha.ok x ((h3 x).1 hx).1⟩, h3⟩
theorem minusL_spec : IsSet (minusL a b) ∧ ∀ x, x ∈ minusL a b ↔ x ∈ a ∧ x ∉ b := by
  rw [minusL, rises_iff.2 ha, rises_iff.2 hb]
  simp only [Bool.and_self, if_true]
  obtain ⟨h1, h2⟩ := mergeL_spec true false false a b ha.up hb.up
  have h3 : ∀ x, x ∈ mergeL true false false a b ↔ x ∈ a ∧ x ∉ b := by
    intro x; rw [h2]; simp
  exact ⟨⟨h1, fun x hx => ha.ok x ((h3 x).1 hx).1⟩, h3⟩
theorem unionL_eq : unionL a b = unionR a b := (unionL_spec ha hb).1.ext (unionR_spec ha hb).1 fun x => by rw [(unionL_spec ha hb).2, (unionR_spec ha hb).2]
theorem meetL_eq : meetL a b = a.filter (fun x => decide (x ∈ b)) := (meetL_spec ha hb).1.ext (ha.filter _) fun x => by rw [(meetL_spec ha hb).2, List.mem_filter]; simp
theorem minusL_eq : minusL a b = a.filter (fun x => !decide (x ∈ b)) := (minusL_spec ha hb).1.ext (ha.filter _) fun x => by rw [(minusL_spec ha hb).2, List.mem_filter]; simp
end
end Go.Am
