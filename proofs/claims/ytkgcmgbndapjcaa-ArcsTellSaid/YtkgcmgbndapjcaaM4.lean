/- Plain: the arcs turned round; steps to some points; the next point on a shortest way; the way. -/
import Derived.Test.YtkgcmgbndapjcaaB3
namespace Go.Am
open Go
set_option linter.unusedVariables false
set_option linter.unusedSimpArgs false

/-- Each arc the other way round. -/
def turnL (adj : List (List Int)) : List (List Int) := (upto adj.length).map fun u => (upto adj.length).filter fun v => decide (u ∈ out adj v)
theorem turn_length (adj : List (List Int)) : (turnL adj).length = adj.length := by simp [turnL]
theorem turn_out {adj : List (List Int)} {u v : Int} (hu : 0 ≤ u ∧ u < adj.length) : v ∈ out (turnL adj) u ↔ (0 ≤ v ∧ v < adj.length) ∧ u ∈ out adj v := by
  have h : u.toNat < (turnL adj).length := by rw [turn_length]; omega
  rw [out_eq h]
  simp only [turnL, List.getElem_map, upto_get, List.mem_filter, mem_upto, decide_eq_true_eq]
  rw [show ((u.toNat : Nat) : Int) = u by omega]
theorem turn_gr {adj : List (List Int)} (hg : Gr adj) : Gr (turnL adj) := by
  have hlen := hg.len
  refine ⟨by rw [turn_length]; exact hg.len, fun l hl => ?_⟩
  rw [turn_length]
  obtain ⟨u, _, rfl⟩ := List.mem_map.1 hl
  exact ⟨(isSet_upto (by omega)).filter _, fun x hx => mem_upto.1 (List.mem_filter.1 hx).1⟩

/-- One comes by k arcs at most from u to x. -/
def Wk (adj : List (List Int)) : Nat → Int → Int → Prop
  | 0, u, x => u = x
  | k + 1, u, x => Wk adj k u x ∨ ∃ y, Wk adj k u y ∧ x ∈ out adj y

theorem Wk.front {adj : List (List Int)} {k : Nat} : ∀ {u x : Int}, Wk adj (k + 1) u x ↔ Wk adj k u x ∨ ∃ y ∈ out adj u, Wk adj k y x := by
  induction k with
  | zero =>
    intro u x
    simp only [Wk]
    constructor
    · rintro (h | ⟨y, rfl, h⟩)
      · exact .inl h
      · exact .inr ⟨x, h, rfl⟩
    · rintro (h | ⟨y, h, rfl⟩)
      · exact .inl h
      · exact .inr ⟨u, rfl, h⟩
  | succ k ih =>
    intro u x
    constructor
    · rintro (h | ⟨y, h, hx⟩)
      · exact .inl h
      · rcases ih.1 h with h | ⟨z, hz, h⟩
        · exact .inl (.inr ⟨y, h, hx⟩)
        · exact .inr ⟨z, hz, .inr ⟨y, h, hx⟩⟩
    · rintro (h | ⟨y, hy, h | ⟨z, h, hx⟩⟩)
      · exact .inl h
      · exact .inl (ih.2 (.inr ⟨y, hy, h⟩))
      · exact .inr ⟨z, ih.2 (.inr ⟨y, hy, h⟩), hx⟩

section
variable {adj : List (List Int)} (hg : Gr adj)
include hg
theorem Wk.lt {k : Nat} {u x : Int} (h : Wk adj k u x) (hu : 0 ≤ u ∧ u < adj.length) : 0 ≤ x ∧ x < adj.length := by
  induction k generalizing x with
  | zero => simp only [Wk] at h; subst h; exact hu
  | succ k ih =>
    rcases h with h | ⟨y, h, hx⟩
    · exact ih h
    · exact (out_pts hg y).lt x hx
theorem lev_walk {l : List Int} (hl : Pts adj.length l) {k : Nat} {x : Int} : x ∈ levL adj l k ↔ ∃ u ∈ l, Wk adj k u x := by
  induction k generalizing x with
  | zero => simp [levL, Wk]
  | succ k ih =>
    rw [mem_lev hg hl, ih]
    simp only [Wk]
    constructor
    · rintro (⟨u, hu, h⟩ | ⟨y, hy, hx⟩)
      · exact ⟨u, hu, .inl h⟩
      · obtain ⟨u, hu, h⟩ := ih.1 hy
        exact ⟨u, hu, .inr ⟨y, h, hx⟩⟩
    · rintro ⟨u, hu, h | ⟨y, h, hx⟩⟩
      · exact .inl ⟨u, hu, h⟩
      · exact .inr ⟨y, ih.2 ⟨u, hu, h⟩, hx⟩
theorem turn_walk {k : Nat} : ∀ {u x : Int}, (0 ≤ u ∧ u < adj.length) → (0 ≤ x ∧ x < adj.length) → (Wk (turnL adj) k x u ↔ Wk adj k u x) := by
  induction k with
  | zero => intro u x _ _; simp only [Wk]; exact eq_comm
  | succ k ih =>
    intro u x hu hx
    rw [Wk.front (adj := adj)]
    simp only [Wk]
    constructor
    · rintro (h | ⟨y, h, hy⟩)
      · exact .inl ((ih hu hx).1 h)
      · have hyl : 0 ≤ y ∧ y < adj.length := by
          have := Wk.lt (turn_gr hg) h (by rw [turn_length]; exact hx)
          rwa [turn_length] at this
        have := (turn_out hyl).1 hy
        exact .inr ⟨y, this.2, (ih hyl hx).1 h⟩
    · rintro (h | ⟨y, hy, h⟩)
      · exact .inl ((ih hu hx).2 h)
      · have hyl := (out_pts hg u).lt y hy
        exact .inr ⟨y, (ih hyl hx).2 h, (turn_out hyl).2 ⟨hu, hy⟩⟩
end

/-- By how many arcs one comes from a point to some. -/
def stepsL (adj : List (List Int)) (v : Int) (to : List Int) : Int :=
  match (List.range (adj.length + 1)).find? fun k => (levL adj [v] k).any fun x => decide (x ∈ to) with
  | some k => k
  | none => -1

theorem pts_one {n : Nat} {v : Int} (hv : 0 ≤ v ∧ v < n) (hn : n ≤ 4096) : Pts n [v] := ⟨.one (by omega), by simpa using hv⟩

section
variable {adj : List (List Int)} (hg : Gr adj) {to : List Int} (ht : Pts adj.length to)
include hg ht
omit hg in
theorem pts_turn : Pts (turnL adj).length to := by rw [turn_length]; exact ht

theorem steps_eq {v : Int} (hv : 0 ≤ v ∧ v < adj.length) : stepsL adj v to = distL (turnL adj) to v := by
  unfold stepsL distL
  rw [turn_length]
  have hp := pts_one hv hg.len
  have : (fun k => (levL adj [v] k).any fun x => decide (x ∈ to)) = fun k => decide (v ∈ levL (turnL adj) to k) := by
    funext k
    rw [Bool.eq_iff_iff, List.any_eq_true, decide_eq_true_eq, lev_walk (turn_gr hg) (pts_turn ht)]
    constructor
    · rintro ⟨x, hx, hxt⟩
      obtain ⟨u, hu, h⟩ := (lev_walk hg hp).1 hx
      simp at hu; subst hu
      have hxt : x ∈ to := by simpa using hxt
      exact ⟨x, hxt, (turn_walk hg hv (ht.lt x hxt)).2 h⟩
    · rintro ⟨x, hxt, h⟩
      exact ⟨x, (lev_walk hg hp).2 ⟨v, by simp, (turn_walk hg hv (ht.lt x hxt)).1 h⟩, by simpa using hxt⟩
  rw [this]
  cases List.find? (fun k => decide (v ∈ levL (turnL adj) to k)) (List.range (adj.length + 1)) <;> rfl

/-- The distance to some points, and the arcs. -/
theorem dt_zero {v : Int} : distL (turnL adj) to v = 0 ↔ v ∈ to := by
  have hgt := turn_gr hg
  have hpt := pts_turn ht
  rcases dist_cases hgt hpt (v := v) with ⟨d, h1, h2, h3, h4⟩ | ⟨h1, h2⟩
  · rw [h2]
    constructor
    · intro h
      have : d = 0 := by omega
      subst this; exact h3
    · intro h
      rcases Nat.eq_zero_or_pos d with hd | hd
      · omega
      · exact absurd h (h4 0 hd)
  · rw [h1]
    constructor
    · intro h; omega
    · intro h; exact absurd h (h2 0)
theorem dt_arc {u v : Int} (hv : 0 ≤ v ∧ v < adj.length) (hu : u ∈ out adj v) (h0 : 0 ≤ distL (turnL adj) to u) : 0 ≤ distL (turnL adj) to v ∧ distL (turnL adj) to v ≤ distL (turnL adj) to u + 1 := by
  have hgt := turn_gr hg
  have hpt := pts_turn ht
  have hul := (out_pts hg v).lt u hu
  rcases dist_cases hgt hpt (v := u) with ⟨d, h1, h2, h3, h4⟩ | ⟨h1, h2⟩
  · have : v ∈ levL (turnL adj) to (d + 1) := (mem_lev hgt hpt).2 (.inr ⟨u, h3, (turn_out hul).2 ⟨hv, hu⟩⟩)
    have := dist_le hgt hpt this
    rw [h2]; omega
  · omega
theorem dt_next {v : Int} (hv : 0 ≤ v ∧ v < adj.length) (h0 : 0 < distL (turnL adj) to v) : ∃ u ∈ out adj v, distL (turnL adj) to u = distL (turnL adj) to v - 1 := by
  have hgt := turn_gr hg
  have hpt := pts_turn ht
  rcases dist_cases hgt hpt (v := v) with ⟨d, h1, h2, h3, h4⟩ | ⟨h1, h2⟩
  · obtain ⟨k, rfl⟩ : ∃ k, d = k + 1 := ⟨d - 1, by omega⟩
    rcases (mem_lev hgt hpt).1 h3 with h | ⟨y, hy, hvy⟩
    · exact absurd h (h4 k (by omega))
    · have hyl : 0 ≤ y ∧ y < adj.length := by have := (lev_pts hgt hpt k).lt y hy; rwa [turn_length] at this
      have hvo := ((turn_out hyl).1 hvy).2
      have hle := dist_le hgt hpt hy
      have := dt_arc hg ht hv hvo hle.1
      exact ⟨y, hvo, by omega⟩
  · omega
end

/-- The first of the least. -/
def leastL (d : Int → Int) (l : List Int) : Int := l.foldl (fun best x => if 0 ≤ d x ∧ (best < 0 ∨ d x < d best) then x else best) (-1)

theorem leastL_take {d : Int → Int} {l : List Int} {k : Nat} (h : k < l.length) : leastL d (l.take (k + 1)) = if 0 ≤ d l[k] ∧ (leastL d (l.take k) < 0 ∨ d l[k] < d (leastL d (l.take k))) then l[k] else leastL d (l.take k) := by
  unfold leastL
  rw [List.take_succ_eq_append_getElem h, List.foldl_append]
  rfl

/-- What the first of the least is. -/
theorem leastL_spec {d : Int → Int} {l : List Int} (hl : ∀ x ∈ l, 0 ≤ x) : (leastL d l = -1 ∧ ∀ x ∈ l, d x < 0) ∨
    (∃ (k : Nat) (h : k < l.length), leastL d l = l[k] ∧ 0 ≤ d l[k] ∧ (∀ x ∈ l, 0 ≤ d x → d l[k] ≤ d x) ∧ ∀ (j : Nat) (hj : j < k), d l[j] < 0 ∨ d l[k] < d l[j]) := by
  have key : ∀ k, k ≤ l.length → (leastL d (l.take k) = -1 ∧ ∀ x ∈ l.take k, d x < 0) ∨
      (∃ (i : Nat) (h : i < l.length), i < k ∧ leastL d (l.take k) = l[i] ∧ 0 ≤ d l[i] ∧ (∀ x ∈ l.take k, 0 ≤ d x → d l[i] ≤ d x) ∧ ∀ (j : Nat) (hj : j < i), d l[j] < 0 ∨ d l[i] < d l[j]) := by
    intro k
    induction k with
    | zero => intro _; exact .inl ⟨rfl, by simp⟩
    | succ k ih =>
      intro hk
      have hkl : k < l.length := by omega
      rw [leastL_take hkl]
      have hm : ∀ x, x ∈ l.take (k + 1) ↔ x ∈ l.take k ∨ x = l[k] := by
        intro x; rw [List.take_succ_eq_append_getElem hkl, List.mem_append, List.mem_singleton]
      have hmj : ∀ (j : Nat) (hj : j < k), l[j] ∈ l.take k := fun j hj => by rw [List.mem_take_iff_getElem]; exact ⟨j, by omega, rfl⟩
      rcases ih (by omega) with ⟨h1, h2⟩ | ⟨i, hi, hik, h1, h2, h3, h4⟩
      · rw [h1]
        by_cases hd : 0 ≤ d l[k]
        · rw [if_pos ⟨hd, .inl (by omega)⟩]
          refine .inr ⟨k, hkl, by omega, rfl, hd, fun x hx h0 => ?_, fun j hj => .inl (h2 _ (hmj j hj))⟩
          rcases (hm x).1 hx with hx | rfl
          · have := h2 x hx; omega
          · omega
        · rw [if_neg (fun h => hd h.1)]
          refine .inl ⟨rfl, fun x hx => ?_⟩
          rcases (hm x).1 hx with hx | rfl
          · exact h2 x hx
          · omega
      · rw [h1]
        have hp := hl l[i] (List.getElem_mem _)
        by_cases hd : 0 ≤ d l[k] ∧ (l[i] < 0 ∨ d l[k] < d l[i])
        · rw [if_pos hd]
          have hlt : d l[k] < d l[i] := by rcases hd.2 with h | h <;> omega
          refine .inr ⟨k, hkl, by omega, rfl, hd.1, fun x hx h0 => ?_, fun j hj => ?_⟩
          · rcases (hm x).1 hx with hx | rfl
            · have := h3 x hx h0; omega
            · omega
          · by_cases h0 : d l[j] < 0
            · exact .inl h0
            · have := h3 _ (hmj j hj) (by omega); exact .inr (by omega)
        · rw [if_neg hd]
          refine .inr ⟨i, hi, by omega, rfl, h2, fun x hx h0 => ?_, h4⟩
          rcases (hm x).1 hx with hx | rfl
          · exact h3 x hx h0
          · rcases Int.lt_or_le (d l[k]) (d l[i]) with h | h
            · exact absurd ⟨h0, .inr h⟩ hd
            · exact h
  have := key l.length (Nat.le_refl _)
  rw [List.take_length] at this
  rcases this with h | ⟨i, hi, _, h⟩
  · exact .inl h
  · exact .inr ⟨i, hi, h⟩

theorem leastL_congr {d e : Int → Int} {l : List Int} (h : ∀ x ∈ l, d x = e x) : leastL d l = leastL e l := by
  have key : ∀ k, k ≤ l.length → leastL d (l.take k) = leastL e (l.take k) ∧ (leastL d (l.take k) < 0 ∨ leastL d (l.take k) ∈ l) := by
    intro k
    induction k with
    | zero => intro _; exact ⟨rfl, .inl (by simp [leastL])⟩
    | succ k ih =>
      intro hk
      have hkl : k < l.length := by omega
      obtain ⟨h1, h2⟩ := ih (by omega)
      rw [leastL_take hkl, leastL_take hkl, ← h1, h _ (List.getElem_mem hkl)]
      rcases h2 with h2 | h2
      · constructor
        · simp [h2]
        · split
          · exact .inr (List.getElem_mem hkl)
          · exact .inl h2
      · rw [h _ h2]
        exact ⟨rfl, by split; (· exact .inr (List.getElem_mem hkl)); (· exact .inr h2)⟩
  have := (key l.length (Nat.le_refl _)).1
  rwa [List.take_length] at this

/-- The first point that an arc leads to and that is one nearer. -/
def nextL (d : Int → Int) (l : List Int) (k : Int) : Int := (l.find? fun u => decide (d u = k)).getD (-1)

theorem nextL_spec {d : Int → Int} {l : List Int} {k : Int} (h : ∃ u ∈ l, d u = k) : nextL d l k ∈ l ∧ d (nextL d l k) = k := by
  unfold nextL
  cases hf : l.find? fun u => decide (d u = k) with
  | none =>
    rw [List.find?_eq_none] at hf
    obtain ⟨u, hu, e⟩ := h
    exact absurd e (by simpa using hf u hu)
  | some u => exact ⟨List.mem_of_find?_eq_some hf, by simpa using List.find?_some hf⟩

theorem next_least {d : Int → Int} {l : List Int} {k : Int} (hk : 0 ≤ k) (hl : ∀ x ∈ l, 0 ≤ x) (h : ∃ u ∈ l, d u = k) (hmin : ∀ u ∈ l, 0 ≤ d u → k ≤ d u) : leastL d l = nextL d l k := by
  obtain ⟨u, hu, hd⟩ := h
  rcases leastL_spec (d := d) hl with ⟨h1, h2⟩ | ⟨i, hi, h1, h2, h3, h4⟩
  · have := h2 u hu; omega
  · have h5 := h3 u hu (by omega)
    have h6 := hmin l[i] (List.getElem_mem _) h2
    have e : d l[i] = k := by omega
    rw [h1, nextL]
    have : l.find? (fun u => decide (d u = k)) = some l[i] := by
      rw [List.find?_eq_some_iff_getElem]
      refine ⟨by simpa using e, i, hi, rfl, fun j hj => ?_⟩
      have := h4 j hj
      simp
      omega
    rw [this]; rfl

/-- The way from a point. -/
def wayL (adj : List (List Int)) (d : Int → Int) : Nat → Int → List Int
  | 0, v => [v]
  | k + 1, v => v :: wayL adj d k (nextL d (out adj v) k)

/-- The answer of Path. -/
def pathL (adj : List (List Int)) (fr to : List Int) : List Int × Bool :=
  let d := distL (turnL adj) to
  let v := leastL d fr
  if v < 0 then ([], false) else (wayL adj d (d v).toNat v, true)
end Go.Am
