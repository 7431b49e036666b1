/- Plain: what the laws of layer 7 say of ways. -/
import Derived.Test.YtbcgjjkchmgeoaaW20
namespace Go.Am
open Go
set_option linter.unusedVariables false
set_option linter.unusedSimpArgs false

theorem subAll (l : List Int) {n : Nat} (hn : n ≤ 100000) : (risesB (-1) l && risesB (-1) (allL (n : Int)) && l.all fun x => decide (x ∈ allL (n : Int))) = ptsB l n := by
  have ha : allL (n : Int) = upto n := by rw [allL, if_pos (by omega), Int.toNat_natCast]
  rw [ha, rises_iff.2 (isSet_upto (by omega)), Bool.and_true, ptsB]
  cases hr : risesB (-1) l with
  | false => rfl
  | true =>
    have hs := rises_iff.1 hr
    rw [Bool.true_and, Bool.true_and, Bool.eq_iff_iff, List.all_eq_true, List.all_eq_true]
    simp only [decide_eq_true_eq, mem_upto]
    exact ⟨fun h x hx => (h x hx).2, fun h x hx => ⟨(hs.ok x hx).1, h x hx⟩⟩

/-- What a way is. -/
structure WayOK (adj : List (List Int)) (d : Int → Int) (k : Nat) (p : List Int) : Prop where
  len : p.length = k + 1
  dist : ∀ (i : Nat) (h : i < p.length), d p[i] = k - i
  lt : ∀ (i : Nat) (h : i < p.length), 0 ≤ p[i] ∧ p[i] < adj.length
  arc : ∀ (i : Nat) (h : i + 1 < p.length), p[i + 1] ∈ out adj p[i]

section
variable {adj : List (List Int)} (hG : Gr adj) {to : List Int} (ht : Pts adj.length to)
include hG ht
theorem way_ok (k : Nat) : ∀ {v : Int}, (0 ≤ v ∧ v < adj.length) → distL (turnL adj) to v = k → WayOK adj (distL (turnL adj) to) k (wayL adj (distL (turnL adj) to) k v) := by
  induction k with
  | zero =>
    intro v hv hd
    refine ⟨rfl, fun i h => ?_, fun i h => ?_, fun i h => ?_⟩
    · simp only [wayL, List.length_singleton] at h
      have : i = 0 := by omega
      subst this; simpa [wayL] using hd
    · simp only [wayL, List.length_singleton] at h
      have : i = 0 := by omega
      subst this; simpa [wayL] using hv
    · simp [wayL] at h
  | succ k ih =>
    intro v hv hd
    obtain ⟨n1, n2, n3⟩ := least_next hG ht hv (k := k) (by omega)
    have hw := ih ((out_pts hG v).lt _ n2) n3
    have h0 : (wayL adj (distL (turnL adj) to) k (nextL (distL (turnL adj) to) (out adj v) k))[0]? = some (nextL (distL (turnL adj) to) (out adj v) k) := by
      rw [way_cons]; rfl
    have he : wayL adj (distL (turnL adj) to) (k + 1) v = v :: wayL adj (distL (turnL adj) to) k (nextL (distL (turnL adj) to) (out adj v) k) := rfl
    rw [he]
    generalize wayL adj (distL (turnL adj) to) k (nextL (distL (turnL adj) to) (out adj v) k) = w at *
    have hwl := hw.len
    have h00 : ∀ h : 0 < w.length, w[0] ∈ out adj v := fun h => by
      rw [List.getElem?_eq_getElem h] at h0
      simp only [Option.some.injEq] at h0
      rw [h0]; exact n2
    refine ⟨by simp [hwl], fun i h => ?_, fun i h => ?_, fun i h => ?_⟩
    · cases i with
      | zero => simpa using hd
      | succ i =>
        have := hw.dist i (by simpa using h)
        simp only [List.getElem_cons_succ]
        omega
    · cases i with
      | zero => exact hv
      | succ i => exact hw.lt i (by simpa using h)
    · cases i with
      | zero => exact h00 (by omega)
      | succ i => exact hw.arc i (by simpa using h)

/-- What Path tells. -/
theorem path_cases {fr : List Int} (hf : Pts adj.length fr) : (pathL adj fr to = ([], false) ∧ ∀ x ∈ fr, distL (turnL adj) to x = -1) ∨
    ∃ (v : Int) (k : Nat), v ∈ fr ∧ distL (turnL adj) to v = k ∧ pathL adj fr to = (wayL adj (distL (turnL adj) to) k v, true) ∧ ∀ x ∈ fr, 0 ≤ distL (turnL adj) to x → k ≤ distL (turnL adj) to x := by
  have hb := dt_bound hG ht
  unfold pathL
  simp only
  rcases leastL_spec (d := distL (turnL adj) to) (fun x hx => (hf.lt x hx).1) with ⟨h1, h2⟩ | ⟨i, hi, h1, h2, h3, _⟩
  · rw [h1]
    exact .inl ⟨by simp, fun x hx => by have := h2 x hx; have := hb x; omega⟩
  · have hv := hf.lt fr[i] (List.getElem_mem _)
    rw [h1, if_neg (by omega)]
    exact .inr ⟨fr[i], (distL (turnL adj) to fr[i]).toNat, List.getElem_mem _, by omega, rfl, fun x hx h0 => by have := h3 x hx h0; omega⟩

/-- One comes to some just if there is a way. -/
theorem meets_iff {fr : List Int} (hf : Pts adj.length fr) : (∃ x ∈ levL adj fr adj.length, x ∈ to) ↔ ∃ v ∈ fr, distL (turnL adj) to v ≠ -1 := by
  constructor
  · rintro ⟨x, hx, hxt⟩
    obtain ⟨u, hu, hw⟩ := (lev_walk hG hf).1 hx
    refine ⟨u, hu, fun h => ?_⟩
    have : u ∈ levL (turnL adj) to adj.length := (lev_walk (turn_gr hG) (pts_turn ht)).2 ⟨x, hxt, (turn_walk hG (hf.lt u hu) (ht.lt x hxt)).2 hw⟩
    have h2 := (dist_neg (turn_gr hG) (pts_turn ht)).1 h
    rw [turn_length] at h2
    exact h2 this
  · rintro ⟨v, hv, h⟩
    have : v ∈ levL (turnL adj) to adj.length := by
      refine Classical.byContradiction fun hn => h ((dist_neg (turn_gr hG) (pts_turn ht)).2 ?_)
      rw [turn_length]; exact hn
    obtain ⟨x, hxt, hw⟩ := (lev_walk (turn_gr hG) (pts_turn ht)).1 this
    exact ⟨x, (lev_walk hG hf).2 ⟨v, hv, (turn_walk hG (hf.lt v hv) (ht.lt x hxt)).1 hw⟩, hxt⟩
end

section
variable {adj : List (List Int)} (hG : Gr adj)
include hG
theorem lev_union {a b : List Int} (ha : Pts adj.length a) (hb : Pts adj.length b) : levL adj (unionR a b) adj.length = unionR (levL adj a adj.length) (levL adj b adj.length) := by
  have hu := ha.union hb
  have h1 := lev_pts hG ha adj.length
  have h2 := lev_pts hG hb adj.length
  refine (lev_pts hG hu adj.length).set.ext (h1.union h2).set fun x => ?_
  rw [lev_walk hG hu, (unionR_spec h1.set h2.set).2, lev_walk hG ha, lev_walk hG hb]
  constructor
  · rintro ⟨u, h, w⟩
    rcases ((unionR_spec ha.set hb.set).2 u).1 h with h | h
    · exact .inl ⟨u, h, w⟩
    · exact .inr ⟨u, h, w⟩
  · rintro (⟨u, h, w⟩ | ⟨u, h, w⟩)
    · exact ⟨u, ((unionR_spec ha.set hb.set).2 u).2 (.inl h), w⟩
    · exact ⟨u, ((unionR_spec ha.set hb.set).2 u).2 (.inr h), w⟩
theorem lev_closed {a : List Int} (ha : Pts adj.length a) {x y : Int} (hx : x ∈ levL adj a adj.length) (hy : y ∈ out adj x) : y ∈ levL adj a adj.length :=
  lev_le hG ha ((mem_lev hG ha (k := adj.length)).2 (.inr ⟨x, hx, hy⟩))
theorem lev_again {a : List Int} (ha : Pts adj.length a) : levL adj (levL adj a adj.length) adj.length = levL adj a adj.length := by
  have h1 := lev_pts hG ha adj.length
  have : ∀ k, ∀ x, x ∈ levL adj (levL adj a adj.length) k → x ∈ levL adj a adj.length := by
    intro k
    induction k with
    | zero => intro x hx; exact hx
    | succ k ih =>
      intro x hx
      rcases (mem_lev hG h1).1 hx with hx | ⟨y, hy, hx⟩
      · exact ih x hx
      · exact lev_closed hG ha (ih y hy) hx
  exact (lev_pts hG h1 adj.length).set.ext h1.set fun x => ⟨this _ x, fun hx => lev_mono hG h1 (Nat.zero_le _) hx⟩
end
end Go.Am
