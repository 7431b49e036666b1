/- Contracts and plain laws that the law ArborTrees needs, part 10. -/
import Derived.Test.YtkgcmgbndapjcaaZArborTrees9
namespace Go.Am
open Go Go.Proofs
set_option linter.unusedVariables false
set_option linter.unusedSimpArgs false
variable {w0 : World}
attribute [local irreducible] AWP ACalls
attribute [local congr] acalls_congr
theorem sortI_set {l : List Int} {m : Nat} (hn : l.Nodup) (hr : ∀ i ∈ l, 0 ≤ i ∧ i < m) : sortI l = (upto m).filter fun i => decide (i ∈ l) := by
  have h1 : (sortI l).Pairwise (· ≤ ·) := by
    have := List.pairwise_mergeSort (le := fun x y : Int => decide (x ≤ y)) (fun a b c h1 h2 => by simp at *; omega) (fun a b => by simp; omega) l
    simpa [sortI] using this
  have hp : (sortI l).Perm l := List.mergeSort_perm _ _
  have h2 : (sortI l).Pairwise (· ≠ ·) := hp.nodup_iff.2 hn
  refine up_ext ((h1.and h2).imp fun h => by omega) ((up_upto _).filter _) fun x => ?_
  rw [hp.mem_iff, List.mem_filter, mem_upto]
  exact ⟨fun h => ⟨hr x h, by simpa using h⟩, fun h => by simpa using h.2⟩
end Go.Am
namespace Go.Am
open Go Go.Proofs
set_option linter.unusedVariables false
set_option linter.unusedSimpArgs false
variable {w0 : World}
attribute [local irreducible] AWP ACalls
attribute [local congr] acalls_congr
theorem ints_one (x : Int) : ints [x] = .sl [I x] 1 := rfl
end Go.Am
namespace Go.Am
open Go Go.Proofs
set_option linter.unusedVariables false
set_option linter.unusedSimpArgs false
variable {w0 : World}
attribute [local irreducible] AWP ACalls
attribute [local congr] acalls_congr
def headsL (arcs : List (Int × Int)) (some : List Int) (u : Int) : List Int := some.foldl (fun l i => if tlA arcs i = u then unionR l [hdA arcs i] else l) []
def adjL (arcs : List (Int × Int)) (some : List Int) (n : Nat) : List (List Int) := (upto n).map (headsL arcs some)
theorem adjL_length (arcs : List (Int × Int)) (some : List Int) (n : Nat) : (adjL arcs some n).length = n := by simp [adjL]
def comeL (arcs : List (Int × Int)) (some : List Int) (n : Nat) (v : Int) : List Int := levL (adjL arcs some n) [v] n
section
variable {arcs : List (Int × Int)} {n : Nat} {root v : Int}
theorem heads_fold (N : NetA n arcs root) (u : Int) (some : List Int) (hs : ∀ i ∈ some, 0 ≤ i ∧ i < arcs.length) : ∀ l, Pts n l → Pts n (some.foldl (fun l i => if tlA arcs i = u then unionR l [hdA arcs i] else l) l) ∧
    ∀ x, x ∈ some.foldl (fun l i => if tlA arcs i = u then unionR l [hdA arcs i] else l) l ↔ x ∈ l ∨ ∃ i ∈ some, tlA arcs i = u ∧ hdA arcs i = x := by
  induction some with
  | nil => intro l hl; exact ⟨hl, fun x => by simp⟩
  | cons i some ih =>
    intro l hl
    obtain ⟨a, b⟩ := hs i (by simp)
    obtain ⟨_, hh⟩ := N.ends i a b
    have hn := N.nle
    rw [List.foldl_cons]
    by_cases e : tlA arcs i = u
    · rw [if_pos e]
      have hone : Pts n [hdA arcs i] := ⟨.one (by omega), by simpa using hh⟩
      have hu := hl.union hone
      obtain ⟨h1, h2⟩ := ih (fun j hj => hs j (by simp [hj])) _ hu
      refine ⟨h1, fun x => ?_⟩
      rw [h2, (unionR_spec hl.set hone.set).2, List.mem_singleton]
      constructor
      · rintro ((h | h) | ⟨j, hj, h3⟩)
        · exact .inl h
        · exact .inr ⟨i, by simp, e, h.symm⟩
        · exact .inr ⟨j, by simp [hj], h3⟩
      · rintro (h | ⟨j, hj, h3, h4⟩)
        · exact .inl (.inl h)
        · rcases List.mem_cons.1 hj with rfl | hj
          · exact .inl (.inr h4.symm)
          · exact .inr ⟨j, hj, h3, h4⟩
    · rw [if_neg e]
      obtain ⟨h1, h2⟩ := ih (fun j hj => hs j (by simp [hj])) _ hl
      refine ⟨h1, fun x => ?_⟩
      rw [h2]
      constructor
      · rintro (h | ⟨j, hj, h3⟩)
        · exact .inl h
        · exact .inr ⟨j, by simp [hj], h3⟩
      · rintro (h | ⟨j, hj, h3, h4⟩)
        · exact .inl h
        · rcases List.mem_cons.1 hj with rfl | hj
          · exact absurd h3 e
          · exact .inr ⟨j, hj, h3, h4⟩
theorem heads_pts (N : NetA n arcs root) {some : List Int} (hs : ∀ i ∈ some, 0 ≤ i ∧ i < arcs.length) (u : Int) : Pts n (headsL arcs some u) := (heads_fold N u some hs [] .nil).1
theorem mem_heads (N : NetA n arcs root) {some : List Int} (hs : ∀ i ∈ some, 0 ≤ i ∧ i < arcs.length) {u x : Int} : x ∈ headsL arcs some u ↔ ∃ i ∈ some, tlA arcs i = u ∧ hdA arcs i = x := by
  have := (heads_fold N u some hs [] .nil).2 x
  simpa [headsL] using this
theorem adj_gr (N : NetA n arcs root) {some : List Int} (hs : ∀ i ∈ some, 0 ≤ i ∧ i < arcs.length) : Gr (adjL arcs some n) := by
  have hn := N.nle
  refine ⟨by rw [adjL_length]; omega, fun l hl => ?_⟩
  obtain ⟨u, _, rfl⟩ := List.mem_map.1 hl
  rw [adjL_length]
  exact heads_pts N hs u
theorem out_adj (some : List Int) {u : Int} (hu : 0 ≤ u ∧ u < n) : out (adjL arcs some n) u = headsL arcs some u := by
  have h : u.toNat < (adjL arcs some n).length := by rw [adjL_length]; omega
  rw [out_eq h]
  simp only [adjL, List.getElem_map, upto_get]
  rw [show ((u.toNat : Nat) : Int) = u by omega]
theorem come_pts (N : NetA n arcs root) {some : List Int} (hs : ∀ i ∈ some, 0 ≤ i ∧ i < arcs.length) (hv : 0 ≤ v ∧ v < n) : Pts n (comeL arcs some n v) := by
  have hG := adj_gr N hs
  have hn := N.nle
  have hp : Pts (adjL arcs some n).length [v] := ⟨.one (by omega), by rw [adjL_length]; simpa using hv⟩
  have := lev_pts hG hp n
  rwa [adjL_length] at this
theorem come_src (N : NetA n arcs root) {some : List Int} (hs : ∀ i ∈ some, 0 ≤ i ∧ i < arcs.length) (hv : 0 ≤ v ∧ v < n) : v ∈ comeL arcs some n v := by
  have hG := adj_gr N hs
  have hn := N.nle
  have hp : Pts (adjL arcs some n).length [v] := ⟨.one (by omega), by rw [adjL_length]; simpa using hv⟩
  exact lev_mono hG hp (Nat.zero_le n) (by simp [levL])
theorem come_step (N : NetA n arcs root) {some : List Int} (hs : ∀ i ∈ some, 0 ≤ i ∧ i < arcs.length) (hv : 0 ≤ v ∧ v < n) {i : Int} (hi : i ∈ some) (ht : tlA arcs i ∈ comeL arcs some n v) : hdA arcs i ∈ comeL arcs some n v := by
  have hG := adj_gr N hs
  have hn := N.nle
  have hp : Pts (adjL arcs some n).length [v] := ⟨.one (by omega), by rw [adjL_length]; simpa using hv⟩
  have h1 : hdA arcs i ∈ levL (adjL arcs some n) [v] (n + 1) := by
    rw [mem_lev hG hp]
    refine .inr ⟨_, ht, ?_⟩
    have := N.ends i (hs i hi).1 (hs i hi).2
    rw [out_adj some this.1, mem_heads N hs]
    exact ⟨i, hi, rfl, rfl⟩
  have := lev_le hG hp h1
  rwa [adjL_length] at this
theorem come_ind (N : NetA n arcs root) {some : List Int} (hs : ∀ i ∈ some, 0 ≤ i ∧ i < arcs.length) (hv : 0 ≤ v ∧ v < n) {p : Int → Prop} (p0 : p v) (ps : ∀ i ∈ some, p (tlA arcs i) → p (hdA arcs i)) {x : Int} (hx : x ∈ comeL arcs some n v) : p x := by
  have hG := adj_gr N hs
  have hn := N.nle
  have hp : Pts (adjL arcs some n).length [v] := ⟨.one (by omega), by rw [adjL_length]; simpa using hv⟩
  have key : ∀ k x, x ∈ levL (adjL arcs some n) [v] k → p x := by
    intro k
    induction k with
    | zero => intro x hx; simp [levL] at hx; subst hx; exact p0
    | succ k ih =>
      intro x hx
      rw [mem_lev hG hp] at hx
      rcases hx with hx | ⟨y, hy, hxy⟩
      · exact ih x hx
      · have hyr := (lev_pts hG hp k).lt y hy
        rw [adjL_length] at hyr
        rw [out_adj some hyr, mem_heads N hs] at hxy
        obtain ⟨i, hi, e1, e2⟩ := hxy
        rw [← e2]
        exact ps i hi (by rw [e1]; exact ih y hy)
  exact key n x hx
theorem heads_take {some : List Int} {k : Nat} (h : k < some.length) (u : Int) : headsL arcs (some.take (k + 1)) u = if tlA arcs some[k] = u then unionR (headsL arcs (some.take k) u) [hdA arcs some[k]] else headsL arcs (some.take k) u := by
  rw [headsL, List.take_succ_eq_append_getElem h, List.foldl_append]
  rfl
end
def arborB (arcs : List (Int × Int)) (n : Nat) (s : List Int) (root : Int) : Bool := ptsB s arcs.length && decide (s.length + 1 = n) && decide ((comeL arcs s n root).length = n)
end Go.Am
namespace Go.Am
set_option linter.unusedVariables false
set_option linter.unusedSimpArgs false
def strongL (arcs : List (Int × Int)) (tight : List Int) (n : Nat) (v : Int) : List Int := (comeL arcs tight n v).filter fun u => decide (v ∈ comeL arcs tight n u)
def enteredB (arcs : List (Int × Int)) (tight s : List Int) : Bool := tight.any fun i => decide (hdA arcs i ∈ s) && !decide (tlA arcs i ∈ s)
def nxtL (arcs : List (Int × Int)) (tight : List Int) (n : Nat) (root : Int) : Option (List Int) :=
  if (comeL arcs tight n root).length = n then none
  else ((upto n).find? fun v => !enteredB arcs tight (strongL arcs tight n v) && !decide (root ∈ strongL arcs tight n v)).map (strongL arcs tight n)
def Plc (arcs : List (Int × Int)) (l : List Int) : Prop := ∀ i ∈ l, 0 ≤ i ∧ i < arcs.length
section
variable {arcs : List (Int × Int)} {n : Nat} {root u v w : Int} {tight : List Int}
theorem come_trans (N : NetA n arcs root) (ht : Plc arcs tight) (hu : 0 ≤ u ∧ u < n) (hv : 0 ≤ v ∧ v < n) (h1 : v ∈ comeL arcs tight n u) (h2 : w ∈ comeL arcs tight n v) : w ∈ comeL arcs tight n u :=
  come_ind N ht hv (p := fun x => x ∈ comeL arcs tight n u) h1 (fun i hi hx => come_step N ht hu hi hx) h2
theorem mem_strong : u ∈ strongL arcs tight n v ↔ u ∈ comeL arcs tight n v ∧ v ∈ comeL arcs tight n u := by simp [strongL, List.mem_filter]
theorem strong_pts (N : NetA n arcs root) (ht : Plc arcs tight) (hv : 0 ≤ v ∧ v < n) : Pts n (strongL arcs tight n v) := by
  have h := come_pts N ht hv
  exact ⟨h.set.filter _, fun x hx => h.lt x (List.mem_filter.1 hx).1⟩
theorem strong_src (N : NetA n arcs root) (ht : Plc arcs tight) (hv : 0 ≤ v ∧ v < n) : v ∈ strongL arcs tight n v := mem_strong.2 ⟨come_src N ht hv, come_src N ht hv⟩
theorem entered_false {s : List Int} : enteredB arcs tight s = false ↔ ∀ i ∈ tight, hdA arcs i ∈ s → tlA arcs i ∈ s := by
  rw [enteredB, List.any_eq_false]
  refine ⟨fun h i hi hh => ?_, fun h i hi => ?_⟩
  · have := h i hi
    simpa [hh] using this
  · have := h i hi
    simp only [Bool.and_eq_true, decide_eq_true_eq, Bool.not_eq_true', decide_eq_false_iff_not, not_and, Classical.not_not]
    exact this
theorem source_part (N : NetA n arcs root) (ht : Plc arcs tight) (h : (comeL arcs tight n root).length ≠ n) :
    ∃ v : Int, 0 ≤ v ∧ v < n ∧ enteredB arcs tight (strongL arcs tight n v) = false ∧ root ∉ strongL arcs tight n v := by
  have hcp := come_pts N ht N.root
  obtain ⟨x, x0, xn, hx⟩ : ∃ x : Int, 0 ≤ x ∧ x < n ∧ x ∉ comeL arcs tight n root := by
    refine Classical.byContradiction fun hno => h ?_
    have h1 := hcp.length
    have h2 := nodup_le (upto n) (comeL arcs tight n root) (nodup_upto n) fun u hu => by
      obtain ⟨a, b⟩ := mem_upto.1 hu
      exact Classical.byContradiction fun hc => hno ⟨u, a, b, hc⟩
    rw [upto_length] at h2
    omega
  obtain ⟨c, ⟨v, v0, vn, hv, rfl⟩, hl⟩ := least_nat (p := fun c => ∃ v : Int, 0 ≤ v ∧ v < n ∧ v ∉ comeL arcs tight n root ∧ ((upto n).countP fun y => decide (v ∈ comeL arcs tight n y)) = c) ⟨_, x, x0, xn, hx, rfl⟩
  refine ⟨v, v0, vn, ?_, fun hr => hv (mem_strong.1 hr).2⟩
  rw [entered_false]
  intro i hi hh
  obtain ⟨i0, i1⟩ := ht i hi
  obtain ⟨⟨t0, tn⟩, ⟨q0, qn⟩⟩ := N.ends i i0 i1
  obtain ⟨h1, h2⟩ := mem_strong.1 hh
  have htv : v ∈ comeL arcs tight n (tlA arcs i) := come_trans N ht ⟨t0, tn⟩ ⟨q0, qn⟩ (come_step N ht ⟨t0, tn⟩ hi (come_src N ht ⟨t0, tn⟩)) h2
  refine Classical.byContradiction fun hns => ?_
  have hnv : tlA arcs i ∉ comeL arcs tight n v := fun hc => hns (mem_strong.2 ⟨hc, htv⟩)
  have hun : tlA arcs i ∉ comeL arcs tight n root := fun hc => hv (come_trans N ht N.root ⟨t0, tn⟩ hc htv)
  have := hl _ ⟨tlA arcs i, t0, tn, hun, rfl⟩
  have hlt := countP_lt_of (l := upto n) (p := fun y => decide (tlA arcs i ∈ comeL arcs tight n y)) (q := fun y => decide (v ∈ comeL arcs tight n y)) (fun y hy hp => by
    obtain ⟨a, b⟩ := mem_upto.1 hy
    simp only [decide_eq_true_eq] at hp ⊢
    exact come_trans N ht ⟨a, b⟩ ⟨t0, tn⟩ hp htv) (x := v) (mem_upto.2 ⟨v0, vn⟩) (by simpa using hnv) (by simpa using come_src N ht ⟨v0, vn⟩)
  omega
theorem next_none (N : NetA n arcs root) (ht : Plc arcs tight) (h : nxtL arcs tight n root = none) : (comeL arcs tight n root).length = n := by
  refine Classical.byContradiction fun hno => ?_
  rw [nxtL, if_neg hno, Option.map_eq_none_iff, List.find?_eq_none] at h
  obtain ⟨v, v0, vn, h1, h2⟩ := source_part N ht hno
  have := h v (mem_upto.2 ⟨v0, vn⟩)
  simp [h1, h2] at this
structure TurnS (arcs : List (Int × Int)) (tight : List Int) (n : Nat) (root : Int) (s : List Int) : Prop where
  pts : Pts n s
  ne : s ≠ []
  nroot : root ∉ s
  free : ∀ i ∈ tight, hdA arcs i ∈ s → tlA arcs i ∈ s
  conn : ∀ X : Int → Bool, (∃ x ∈ s, X x = true) → (∃ y ∈ s, X y = false) → ∃ i ∈ tight, tlA arcs i ∈ s ∧ X (tlA arcs i) = true ∧ hdA arcs i ∈ s ∧ X (hdA arcs i) = false
theorem next_some (N : NetA n arcs root) (ht : Plc arcs tight) {s : List Int} (h : nxtL arcs tight n root = some s) : TurnS arcs tight n root s := by
  rw [nxtL] at h
  split at h
  · cases h
  obtain ⟨v, hf, rfl⟩ := Option.map_eq_some_iff.1 h
  have h1 := List.find?_some hf
  obtain ⟨v0, vn⟩ := mem_upto.1 (List.mem_of_find?_eq_some hf)
  simp only [Bool.and_eq_true, Bool.not_eq_true', decide_eq_false_iff_not] at h1
  refine ⟨strong_pts N ht ⟨v0, vn⟩, fun e => ?_, h1.2, entered_false.1 h1.1, fun X ⟨x, hx, hX⟩ ⟨y, hy, hY⟩ => ?_⟩
  · have := strong_src N ht (v := v) ⟨v0, vn⟩
    rw [e] at this; cases this
  · refine Classical.byContradiction fun hno => ?_
    obtain ⟨x1, x2⟩ := mem_strong.1 hx
    obtain ⟨y1, y2⟩ := mem_strong.1 hy
    have hp := strong_pts N ht (v := v) ⟨v0, vn⟩
    have hxr := hp.lt x hx
    have hyr := hp.lt y hy
    -- all that one comes to from x, if one comes back, has X
    have key : ∀ z, z ∈ comeL arcs tight n x → z ∈ strongL arcs tight n v → X z = true := by
      intro z hz
      have : (z ∈ strongL arcs tight n v → X z = true) ∧ z ∈ comeL arcs tight n x := by
        refine come_ind N ht hxr (p := fun z => (z ∈ strongL arcs tight n v → X z = true) ∧ z ∈ comeL arcs tight n x) ⟨fun _ => hX, come_src N ht hxr⟩ (fun i hi ⟨hp1, hp2⟩ => ⟨fun hs => ?_, come_step N ht hxr hi hp2⟩) hz
        obtain ⟨i0, i1⟩ := ht i hi
        obtain ⟨⟨t0, tn⟩, ⟨q0, qn⟩⟩ := N.ends i i0 i1
        obtain ⟨s1, s2⟩ := mem_strong.1 hs
        have htl : tlA arcs i ∈ strongL arcs tight n v := mem_strong.2 ⟨come_trans N ht ⟨v0, vn⟩ hxr x1 hp2,
          come_trans N ht ⟨t0, tn⟩ ⟨q0, qn⟩ (come_step N ht ⟨t0, tn⟩ hi (come_src N ht ⟨t0, tn⟩)) s2⟩
        cases e : X (hdA arcs i) with
        | true => rfl
        | false => exact absurd ⟨i, hi, htl, hp1 htl, hs, e⟩ hno
      exact this.1
    have hxy : y ∈ comeL arcs tight n x := come_trans N ht hxr ⟨v0, vn⟩ x2 y1
    rw [key y hxy hy] at hY
    cases hY
end
end Go.Am
namespace Go.Am
set_option linter.unusedVariables false
set_option linter.unusedSimpArgs false
structure ASt where
  rest : Int → Int
  tight : List Int
  cuts : List (List Int × Int)
section
variable (arcs : List (Int × Int)) (n : Nat) (root : Int)
def leastR (rest : Int → Int) : List Int → Int
  | [] => 0
  | i :: l => l.foldl (fun y j => min y (rest j)) (rest i)
def payA (st : ASt) (s : List Int) : ASt :=
  let e := entA arcs no0 s
  let y := leastR st.rest e
  let rest' := fun i => if i ∈ e then st.rest i - y else st.rest i
  ⟨rest', st.tight ++ e.filter (fun i => decide (rest' i = 0)), st.cuts ++ [(s, y)]⟩
def runA : Nat → ASt → ASt × Option (List Int)
  | 0, st => (st, none)
  | f + 1, st => match nxtL arcs st.tight n root with
    | none => (st, none)
    | some s => if entA arcs no0 s = [] then (st, some s) else runA f (payA arcs st s)
end
theorem foldl_min (f : Int → Int) (l : List Int) : ∀ y : Int, l.foldl (fun y j => min y (f j)) y ≤ y ∧ (∀ j ∈ l, l.foldl (fun y j => min y (f j)) y ≤ f j) ∧ (l.foldl (fun y j => min y (f j)) y = y ∨ ∃ j ∈ l, l.foldl (fun y j => min y (f j)) y = f j) := by
  induction l with
  | nil => intro y; simp
  | cons a l ih =>
    intro y
    rw [List.foldl_cons]
    obtain ⟨h1, h2, h3⟩ := ih (min y (f a))
    refine ⟨by omega, fun j hj => ?_, ?_⟩
    · rcases List.mem_cons.1 hj with rfl | hj
      · omega
      · exact h2 j hj
    · rcases h3 with h3 | ⟨j, hj, h3⟩
      · rcases Int.le_total y (f a) with h | h
        · left; rw [h3]; omega
        · right; exact ⟨a, by simp, by rw [h3]; omega⟩
      · right; exact ⟨j, by simp [hj], h3⟩
theorem least_le {rest : Int → Int} {l : List Int} {i : Int} (h : i ∈ l) : leastR rest l ≤ rest i := by
  cases l with
  | nil => cases h
  | cons a l =>
    obtain ⟨h1, h2, _⟩ := foldl_min rest l (rest a)
    rcases List.mem_cons.1 h with rfl | h
    · exact h1
    · exact h2 i h
theorem least_mem {rest : Int → Int} {l : List Int} (h : l ≠ []) : ∃ i ∈ l, leastR rest l = rest i := by
  cases l with
  | nil => exact absurd rfl h
  | cons a l =>
    obtain ⟨_, _, h3⟩ := foldl_min rest l (rest a)
    rcases h3 with h3 | ⟨j, hj, h3⟩
    · exact ⟨a, by simp, h3⟩
    · exact ⟨j, by simp [hj], h3⟩
section
variable {arcs : List (Int × Int)} {n : Nat} {root : Int}
theorem mem_ent {s : List Int} {i : Int} : i ∈ entA arcs no0 s ↔ (0 ≤ i ∧ i < arcs.length) ∧ hdA arcs i ∈ s ∧ tlA arcs i ∉ s := by
  rw [entA, List.mem_filter, mem_upto]
  simp
def paidC (arcs : List (Int × Int)) (cuts : List (List Int × Int)) (i : Int) : Int := (cuts.map fun c => if hdA arcs i ∈ c.1 ∧ tlA arcs i ∉ c.1 then c.2 else 0).sum
structure AInv (arcs : List (Int × Int)) (n : Nat) (root : Int) (cost : Int → Int) (st : ASt) : Prop where
  plc : Plc arcs st.tight
  nodup : st.tight.Nodup
  zero : ∀ i ∈ st.tight, st.rest i = 0
  rest : ∀ i : Int, 0 ≤ i → i < arcs.length → st.rest i = cost i - paidC arcs st.cuts i
  touch : ∀ i ∈ st.tight, tlA arcs i ≠ hdA arcs i ∧ ∃ c ∈ st.cuts, hdA arcs i ∈ c.1
  nonneg : ∀ i : Int, 0 ≤ i → i < arcs.length → tlA arcs i ≠ hdA arcs i → (∃ c ∈ st.cuts, hdA arcs i ∈ c.1) → 0 ≤ st.rest i
  cut : ∀ c ∈ st.cuts, Pts n c.1 ∧ c.1 ≠ [] ∧ root ∉ c.1 ∧ (c.1.length = 1 ∨ 0 ≤ c.2)
  conn : ∀ c ∈ st.cuts, ∃ p, p ≤ st.tight.length ∧ (∀ i ∈ st.tight.take p, hdA arcs i ∈ c.1 → tlA arcs i ∈ c.1) ∧
    ∀ X : Int → Bool, (∃ x ∈ c.1, X x = true) → (∃ y ∈ c.1, X y = false) → ∃ i ∈ st.tight.take p, tlA arcs i ∈ c.1 ∧ X (tlA arcs i) = true ∧ hdA arcs i ∈ c.1 ∧ X (hdA arcs i) = false
theorem AInv.start (cost : Int → Int) : AInv arcs n root cost ⟨cost, [], []⟩ where
  plc i hi := by cases hi
  nodup := .nil
  zero i hi := by cases hi
  rest i _ _ := by simp [paidC]
  touch i hi := by cases hi
  nonneg i _ _ _ h := by obtain ⟨c, hc, _⟩ := h; cases hc
  cut c hc := by cases hc
  conn c hc := by cases hc
theorem two_of_len {l : List Int} (h : l.Pairwise (· < ·)) (hne : l ≠ []) (h1 : l.length ≠ 1) : ∀ x ∈ l, ∃ y ∈ l, y ≠ x := by
  intro x hx
  match l, hne, h1 with
  | a :: b :: l, _, _ =>
    have hab : a < b := (List.pairwise_cons.1 h).1 b (by simp)
    by_cases e : x = a
    · exact ⟨b, by simp, by omega⟩
    · exact ⟨a, by simp, fun e' => e e'.symm⟩
theorem AInv.pay {cost : Int → Int} {st : ASt} (N : NetA n arcs root) (h : AInv arcs n root cost st) {s : List Int} (t : TurnS arcs st.tight n root s) (hne : entA arcs no0 s ≠ []) :
    AInv arcs n root cost (payA arcs st s) ∧ st.tight.length < (payA arcs st s).tight.length := by
  obtain ⟨im, him, hmin⟩ := least_mem (rest := st.rest) hne
  have hle := fun i hi => least_le (rest := st.rest) (l := entA arcs no0 s) (i := i) hi
  generalize hy : leastR st.rest (entA arcs no0 s) = y at *
  have hst : payA arcs st s = ⟨fun i => if i ∈ entA arcs no0 s then st.rest i - y else st.rest i, st.tight ++ (entA arcs no0 s).filter (fun i => decide ((if i ∈ entA arcs no0 s then st.rest i - y else st.rest i) = 0)), st.cuts ++ [(s, y)]⟩ := by
    rw [payA, hy]
  -- a set of more than one was touched
  have htouched : s.length ≠ 1 → ∀ x ∈ s, ∃ c ∈ st.cuts, x ∈ c.1 := by
    intro hl x hx
    obtain ⟨z, hz, hzx⟩ := two_of_len t.pts.set.up t.ne hl x hx
    obtain ⟨i, hi, _, _, hh, hX⟩ := t.conn (fun u => decide (u ≠ x)) ⟨z, hz, by simpa using hzx⟩ ⟨x, hx, by simp⟩
    obtain ⟨_, c, hc, hin⟩ := h.touch i hi
    have : hdA arcs i = x := by simpa using hX
    rw [this] at hin
    exact ⟨c, hc, hin⟩
  have hy0 : s.length = 1 ∨ 0 ≤ y := by
    by_cases hl : s.length = 1
    · exact .inl hl
    · right
      obtain ⟨⟨m0, m1⟩, mh, mt⟩ := mem_ent.1 him
      rw [hmin]
      exact h.nonneg im m0 m1 (fun e => mt (by rw [e]; exact mh)) (htouched hl _ mh)
  have hpaid : ∀ i : Int, 0 ≤ i → i < arcs.length → (if i ∈ entA arcs no0 s then st.rest i - y else st.rest i) = cost i - paidC arcs (st.cuts ++ [(s, y)]) i := by
    intro i i0 i1
    rw [paidC, List.map_append, List.sum_append]
    simp only [List.map_cons, List.map_nil, List.sum_cons, List.sum_nil]
    have := h.rest i i0 i1
    rw [paidC] at this
    by_cases e : hdA arcs i ∈ s ∧ tlA arcs i ∉ s
    · rw [if_pos e, if_pos (mem_ent.2 ⟨⟨i0, i1⟩, e⟩)]; omega
    · rw [if_neg e, if_neg (fun h => e (mem_ent.1 h).2)]; omega
  rw [hst]
  refine ⟨⟨fun i hi => ?_, ?_, fun i hi => ?_, hpaid, fun i hi => ?_, fun i i0 i1 hlp ⟨c, hc, hin⟩ => ?_, fun c hc => ?_, fun c hc => ?_⟩, ?_⟩
  · rcases List.mem_append.1 hi with hi | hi
    · exact h.plc i hi
    · exact (mem_ent.1 (List.mem_filter.1 hi).1).1
  · rw [List.nodup_append]
    refine ⟨h.nodup, ((nodup_upto _).filter _).filter _, fun a ha b hb e => ?_⟩
    subst e
    obtain ⟨_, h1, h2⟩ := mem_ent.1 (List.mem_filter.1 hb).1
    exact h2 (t.free a ha h1)
  · rcases List.mem_append.1 hi with hi' | hi'
    · have : i ∉ entA arcs no0 s := fun he => by
        obtain ⟨_, h1, h2⟩ := mem_ent.1 he
        exact h2 (t.free i hi' h1)
      simp only [if_neg this]
      exact h.zero i hi'
    · simpa using (List.mem_filter.1 hi').2
  · rcases List.mem_append.1 hi with hi' | hi'
    · obtain ⟨a, c, hc, hin⟩ := h.touch i hi'
      exact ⟨a, c, List.mem_append.2 (.inl hc), hin⟩
    · obtain ⟨_, h1, h2⟩ := mem_ent.1 (List.mem_filter.1 hi').1
      exact ⟨fun e => h2 (by rw [e]; exact h1), (s, y), List.mem_append.2 (.inr (by simp)), h1⟩
  · by_cases he : i ∈ entA arcs no0 s
    · simp only [if_pos he]
      have := hle i he
      omega
    · simp only [if_neg he]
      rcases List.mem_append.1 hc with hc | hc
      · exact h.nonneg i i0 i1 hlp ⟨c, hc, hin⟩
      · rw [List.mem_singleton] at hc
        subst hc
        have htl : tlA arcs i ∈ s := Classical.byContradiction fun hn => he (mem_ent.2 ⟨⟨i0, i1⟩, hin, hn⟩)
        by_cases hl : s.length = 1
        · obtain ⟨z, rfl⟩ := List.length_eq_one_iff.1 hl
          simp at hin htl
          exact absurd (htl.trans hin.symm) hlp
        · exact h.nonneg i i0 i1 hlp (htouched hl _ hin)
  · rcases List.mem_append.1 hc with hc | hc
    · exact h.cut c hc
    · rw [List.mem_singleton] at hc
      subst hc
      exact ⟨t.pts, t.ne, t.nroot, hy0⟩
  · rcases List.mem_append.1 hc with hc | hc
    · obtain ⟨p, hp, h1, h2⟩ := h.conn c hc
      have htk : (st.tight ++ (entA arcs no0 s).filter (fun i => decide ((if i ∈ entA arcs no0 s then st.rest i - y else st.rest i) = 0))).take p = st.tight.take p := List.take_append_of_le_length hp
      exact ⟨p, by rw [List.length_append]; omega, by rw [htk]; exact h1, by rw [htk]; exact h2⟩
    · rw [List.mem_singleton] at hc
      subst hc
      have htk : (st.tight ++ (entA arcs no0 s).filter (fun i => decide ((if i ∈ entA arcs no0 s then st.rest i - y else st.rest i) = 0))).take st.tight.length = st.tight := List.take_left
      exact ⟨st.tight.length, by rw [List.length_append]; omega, by rw [htk]; exact t.free, by rw [htk]; exact t.conn⟩
  · simp only [List.length_append]
    have : 0 < ((entA arcs no0 s).filter (fun i => decide ((if i ∈ entA arcs no0 s then st.rest i - y else st.rest i) = 0))).length := by
      refine List.length_pos_of_mem (a := im) (List.mem_filter.2 ⟨him, ?_⟩)
      simp only [if_pos him, decide_eq_true_eq]
      omega
    omega
theorem AInv.tight_le {cost : Int → Int} {st : ASt} (h : AInv arcs n root cost st) : st.tight.length ≤ arcs.length := by
  have := nodup_le st.tight (upto arcs.length) h.nodup fun i hi => mem_upto.2 (h.plc i hi)
  rwa [upto_length] at this
theorem run_end {cost : Int → Int} (N : NetA n arcs root) (f : Nat) : ∀ st, AInv arcs n root cost st → arcs.length < f + st.tight.length →
    AInv arcs n root cost (runA arcs n root f st).1 ∧ match (runA arcs n root f st).2 with
      | none => (comeL arcs (runA arcs n root f st).1.tight n root).length = n
      | some s => TurnS arcs (runA arcs n root f st).1.tight n root s ∧ entA arcs no0 s = [] := by
  induction f with
  | zero => intro st h hf; have := h.tight_le; omega
  | succ f ih =>
    intro st h hf
    rw [runA]
    cases hn : nxtL arcs st.tight n root with
    | none => exact ⟨h, next_none N h.plc hn⟩
    | some s =>
      have ht := next_some N h.plc hn
      by_cases he : entA arcs no0 s = []
      · simp only [if_pos he]
        exact ⟨h, ht, he⟩
      · simp only [if_neg he]
        obtain ⟨h1, h2⟩ := h.pay N ht he
        exact ih _ h1 (by omega)
end
end Go.Am
namespace Go.Am
set_option linter.unusedVariables false
set_option linter.unusedSimpArgs false
section
variable (arcs : List (Int × Int)) (root : Int) (tight : List Int)
def okT (s : GSt) (i : Int) : Bool := s.has (tlA arcs i) && !s.has (hdA arcs i)
def stepT (s : GSt) : GSt := match tight.find? (okT arcs s) with
  | some i => takeG arcs s i
  | none => s
def iterT : Nat → GSt
  | 0 => startG root no0
  | k + 1 => stepT arcs tight (iterT k)
def growT (n : Nat) : List Int := (upto arcs.length).filter fun i => decide (i ∈ (iterT arcs root tight (n - 1)).out)
end
section
variable {arcs : List (Int × Int)} {n : Nat} {root : Int} {tight : List Int}
theorem GInv.not_gone {s : GSt} (h : GInv arcs n root no0 s) {i : Int} (hh : s.has (hdA arcs i) = false) : s.gone i = false := by
  rw [h.gone' i]
  have : i ∉ s.out := fun hi => by rw [(h.ends i hi).2] at hh; cases hh
  simp [this]
theorem stepT_cases (s : GSt) : (stepT arcs tight s = s ∧ ∀ i ∈ tight, okT arcs s i = false) ∨ ∃ la i bs, tight = la ++ i :: bs ∧ okT arcs s i = true ∧ (∀ j ∈ la, okT arcs s j = false) ∧ stepT arcs tight s = takeG arcs s i := by
  unfold stepT
  cases h : tight.find? (okT arcs s) with
  | none =>
    rw [List.find?_eq_none] at h
    exact .inl ⟨rfl, fun i hi => by simpa using h i hi⟩
  | some i =>
    obtain ⟨h1, la, bs, h2, h3⟩ := List.find?_eq_some_iff_append.1 h
    exact .inr ⟨la, i, bs, h2, h1, fun j hj => by simpa using h3 j hj, rfl⟩
theorem GInv.stepT (N : NetA n arcs root) (ht : Plc arcs tight) {s : GSt} (h : GInv arcs n root no0 s) : GInv arcs n root no0 (stepT arcs tight s) := by
  rcases stepT_cases (arcs := arcs) (tight := tight) s with ⟨e, _⟩ | ⟨la, i, bs, e1, e2, _, e4⟩
  · rw [e]; exact h
  · rw [e4]
    obtain ⟨i0, i1⟩ := ht i (by rw [e1]; simp)
    simp only [okT, Bool.and_eq_true, Bool.not_eq_true'] at e2
    exact h.take N i0 i1 (h.not_gone e2.2) e2.1 e2.2
theorem GInv.iterT (N : NetA n arcs root) (ht : Plc arcs tight) (k : Nat) : GInv arcs n root no0 (iterT arcs root tight k) := by
  induction k with
  | zero => exact .start N no0
  | succ k ih => exact ih.stepT N ht
theorem iterT_sub (k : Nat) : ∀ i ∈ (iterT arcs root tight k).out, i ∈ tight := by
  induction k with
  | zero => intro i hi; cases hi
  | succ k ih =>
    intro i hi
    rw [iterT] at hi
    rcases stepT_cases (arcs := arcs) (tight := tight) (iterT arcs root tight k) with ⟨e, _⟩ | ⟨la, j, bs, e1, e2, _, e4⟩
    · rw [e] at hi; exact ih i hi
    · rw [e4] at hi
      rcases List.mem_append.1 hi with hi | hi
      · exact ih i hi
      · simp at hi; subst hi; rw [e1]; simp
theorem iterT_full (N : NetA n arcs root) (ht : Plc arcs tight) (hall : (comeL arcs tight n root).length = n) (k : Nat) (hk : k < n) : (iterT arcs root tight k).out.length = k := by
  induction k with
  | zero => rfl
  | succ k ih =>
    have h1 := ih (by omega)
    have hI := GInv.iterT N ht (tight := tight) k
    rw [iterT]
    generalize iterT arcs root tight k = s at *
    rcases stepT_cases (arcs := arcs) (tight := tight) s with ⟨_, hno⟩ | ⟨la, j, bs, e1, e2, _, e4⟩
    · exfalso
      have hcp := come_pts N ht N.root
      have hhas : ∀ u : Int, 0 ≤ u → u < n → s.has u = true := by
        intro u u0 un
        have hu : u ∈ comeL arcs tight n root := by
          refine Classical.byContradiction fun hc => ?_
          have h2 := nodup_le (u :: comeL arcs tight n root) (upto n) (List.nodup_cons.2 ⟨hc, hcp.set.nodup⟩) fun x hx => by
            rcases List.mem_cons.1 hx with rfl | hx
            · exact mem_upto.2 ⟨u0, un⟩
            · exact mem_upto.2 (hcp.lt x hx)
          rw [upto_length, List.length_cons] at h2
          omega
        refine come_ind N ht N.root (p := fun x => s.has x = true) hI.root' (fun i hi hp => ?_) hu
        have := hno i hi
        simp only [okT, hp, Bool.true_and, Bool.not_eq_false'] at this
        exact this
      have := (List.countP_eq_length (p := s.has) (l := upto n)).2 fun u hu => by
        obtain ⟨a, b⟩ := mem_upto.1 hu
        exact hhas u a b
      rw [upto_length, hI.cnt] at this
      omega
    · rw [e4]; simp [takeG, h1]
theorem mem_growT (N : NetA n arcs root) (ht : Plc arcs tight) {i : Int} : i ∈ growT arcs root tight n ↔ i ∈ (iterT arcs root tight (n - 1)).out := by
  rw [growT, List.mem_filter, mem_upto]
  exact ⟨fun h => by simpa using h.2, fun h => ⟨(GInv.iterT N ht _).rng i h, by simpa using h⟩⟩
theorem growT_pts (N : NetA n arcs root) : Pts arcs.length (growT arcs root tight n) := by
  have hm := N.mle
  exact ⟨(isSet_upto (by omega)).filter _, fun x hx => mem_upto.1 (List.mem_filter.1 hx).1⟩
theorem growT_all (N : NetA n arcs root) (ht : Plc arcs tight) (hall : (comeL arcs tight n root).length = n) : ∀ u : Int, 0 ≤ u → u < n → (iterT arcs root tight (n - 1)).has u = true := by
  have h1 := iterT_full N ht hall (n - 1) (by have := N.root; omega)
  have hI := GInv.iterT N ht (tight := tight) (n - 1)
  intro u a b
  have hc := hI.cnt
  have : (upto n).countP (iterT arcs root tight (n - 1)).has = (upto n).length := by rw [hc, upto_length]; have := N.root; omega
  exact List.countP_eq_length.1 this u (mem_upto.2 ⟨a, b⟩)
theorem growT_arbor (N : NetA n arcs root) (ht : Plc arcs tight) (hall : (comeL arcs tight n root).length = n) : arborB arcs n (growT arcs root tight n) root = true := by
  have hrt := N.root
  have h1 := iterT_full N ht hall (n - 1) (by omega)
  have hI := GInv.iterT N ht (tight := tight) (n - 1)
  have hp := growT_pts (tight := tight) N
  have hlen : (growT arcs root tight n).length + 1 = n := by
    have e1 := nodup_le _ _ hp.set.nodup fun x hx => (mem_growT N ht).1 hx
    have e2 := nodup_le _ _ hI.nodup fun x hx => (mem_growT N ht).2 hx
    omega
  have hcome : (comeL arcs (growT arcs root tight n) n root).length = n := by
    have hcp := come_pts N hp.lt hrt
    have e1 := hcp.length
    have e2 := nodup_le (upto n) (comeL arcs (growT arcs root tight n) n root) (nodup_upto n) fun u hu => by
      obtain ⟨a, b⟩ := mem_upto.1 hu
      exact hI.reach (fun x => x ∈ comeL arcs (growT arcs root tight n) n root) (come_src N hp.lt hrt) (fun i hi hx => come_step N hp.lt hrt ((mem_growT N ht).2 hi) hx) u (growT_all N ht hall u a b)
    rw [upto_length] at e2
    omega
  simp [arborB, pts_iff.2 hp, hlen, hcome]
def entS (arcs : List (Int × Int)) (s : List Int) (i : Int) : Bool := decide (hdA arcs i ∈ s) && !decide (tlA arcs i ∈ s)
theorem once_cut (N : NetA n arcs root) (ht : Plc arcs tight) {S : List Int} {p : Nat} (hr : root ∉ S) (hfree : ∀ i ∈ tight.take p, hdA arcs i ∈ S → tlA arcs i ∈ S)
    (hconn : ∀ X : Int → Bool, (∃ x ∈ S, X x = true) → (∃ y ∈ S, X y = false) → ∃ i ∈ tight.take p, tlA arcs i ∈ S ∧ X (tlA arcs i) = true ∧ hdA arcs i ∈ S ∧ X (hdA arcs i) = false) (k : Nat) :
    ((∀ x ∈ S, (iterT arcs root tight k).has x = false) ∧ (iterT arcs root tight k).out.countP (entS arcs S) = 0) ∨ ((∃ x ∈ S, (iterT arcs root tight k).has x = true) ∧ (iterT arcs root tight k).out.countP (entS arcs S) = 1) := by
  induction k with
  | zero =>
    left
    refine ⟨fun x hx => ?_, rfl⟩
    show setF (fun _ => false) root true x = false
    rw [setF_ne _ _ (fun e => by subst e; exact hr hx)]
  | succ k ih =>
    have hI := GInv.iterT N ht (tight := tight) k
    rw [iterT]
    generalize iterT arcs root tight k = s at *
    rcases stepT_cases (arcs := arcs) (tight := tight) s with ⟨e, _⟩ | ⟨la, i, bs, e1, e2, e3, e4⟩
    · rw [e]; exact ih
    rw [e4]
    simp only [okT, Bool.and_eq_true, Bool.not_eq_true'] at e2
    have hcount : (takeG arcs s i).out.countP (entS arcs S) = s.out.countP (entS arcs S) + if entS arcs S i then 1 else 0 := by
      rw [takeG, List.countP_append]; simp [List.countP_cons]
    rw [hcount]
    have hhas : ∀ x, (takeG arcs s i).has x = if x = hdA arcs i then true else s.has x := fun x => by
      show setF s.has (hdA arcs i) true x = _
      by_cases e : x = hdA arcs i
      · subst e; rw [setF_same, if_pos rfl]
      · rw [setF_ne _ _ e, if_neg e]
    rcases ih with ⟨h1, h2⟩ | ⟨h1, h2⟩
    · by_cases hh : hdA arcs i ∈ S
      · right
        refine ⟨⟨_, hh, by rw [hhas, if_pos rfl]⟩, ?_⟩
        have htl : tlA arcs i ∉ S := fun hc => by rw [h1 _ hc] at e2; cases e2.1
        rw [h2]; simp [entS, hh, htl]
      · left
        refine ⟨fun x hx => by rw [hhas, if_neg (fun e => by subst e; exact hh hx)]; exact h1 x hx, ?_⟩
        rw [h2]; simp [entS, hh]
    · right
      obtain ⟨x, hx, hX⟩ := h1
      refine ⟨⟨x, hx, by rw [hhas]; split; (· rfl); (· exact hX)⟩, ?_⟩
      have : entS arcs S i = false := by
        cases e : entS arcs S i with
        | false => rfl
        | true =>
        exfalso
        simp only [entS, Bool.and_eq_true, decide_eq_true_eq, Bool.not_eq_true', decide_eq_false_iff_not] at e
        obtain ⟨j, hj, j1, j2, j3, j4⟩ := hconn s.has ⟨x, hx, hX⟩ ⟨_, e.1, e2.2⟩
        have hp : p ≤ la.length := by
          refine Classical.byContradiction fun hlt => ?_
          have : i ∈ tight.take p := by
            rw [e1, List.take_append, List.mem_append]
            right
            obtain ⟨q, hq⟩ : ∃ q, p - la.length = q + 1 := ⟨p - la.length - 1, by omega⟩
            rw [hq]
            simp
          exact e.2 (hfree i this e.1)
        have hja : j ∈ la := by
          rw [e1, List.take_append_of_le_length hp] at hj
          exact List.mem_of_mem_take hj
        have := e3 j hja
        simp [okT, j2, j4] at this
      rw [h2, this]
      rfl
end
end Go.Am
namespace Go.Am
set_option linter.unusedVariables false
set_option linter.unusedSimpArgs false
section
variable {arcs : List (Int × Int)} {n : Nat} {root : Int} {s : List Int}
theorem arborB_iff : arborB arcs n s root = true ↔ Pts arcs.length s ∧ s.length + 1 = n ∧ (comeL arcs s n root).length = n := by
  simp only [arborB, Bool.and_eq_true, decide_eq_true_eq, pts_iff, and_assoc]
theorem come_all (N : NetA n arcs root) {l : List Int} (hs : Plc arcs l) (h : (comeL arcs l n root).length = n) : ∀ u : Int, 0 ≤ u → u < n → u ∈ comeL arcs l n root := by
  intro u u0 un
  have hcp := come_pts N hs N.root
  refine Classical.byContradiction fun hc => ?_
  have h2 := nodup_le (u :: comeL arcs l n root) (upto n) (List.nodup_cons.2 ⟨hc, hcp.set.nodup⟩) fun x hx => by
    rcases List.mem_cons.1 hx with rfl | hx
    · exact mem_upto.2 ⟨u0, un⟩
    · exact mem_upto.2 (hcp.lt x hx)
  rw [upto_length, List.length_cons] at h2
  omega
theorem all_come (N : NetA n arcs root) {l : List Int} (hs : Plc arcs l) (h : ∀ u : Int, 0 ≤ u → u < n → u ∈ comeL arcs l n root) : (comeL arcs l n root).length = n := by
  have hcp := come_pts N hs N.root
  have h1 := hcp.length
  have h2 := nodup_le (upto n) (comeL arcs l n root) (nodup_upto n) fun u hu => by
    obtain ⟨a, b⟩ := mem_upto.1 hu
    exact h u a b
  rw [upto_length] at h2
  omega
theorem cut_entered (N : NetA n arcs root) {l : List Int} (hs : Plc arcs l) (h : (comeL arcs l n root).length = n) {S : List Int} (hS : Pts n S) (hne : S ≠ []) (hr : root ∉ S) : ∃ i ∈ l, entS arcs S i = true := by
  obtain ⟨x, hx⟩ := List.exists_mem_of_ne_nil S hne
  obtain ⟨x0, xn⟩ := hS.lt x hx
  have hc := come_all N hs h x x0 xn
  refine Classical.byContradiction fun hno => ?_
  have := come_ind N hs N.root (p := fun u => u ∉ S) hr (fun i hi ht hh => hno ⟨i, hi, by simp [entS, ht, hh]⟩) hc
  exact this hx
theorem sum_const_int {α : Type} (l : List α) : (l.map fun _ => (1 : Int)).sum = l.length := by
  induction l with
  | nil => rfl
  | cons a l ih => rw [List.map_cons, List.sum_cons, ih, List.length_cons]; omega
theorem sum_b2i_count (l : List Int) (p : Int → Bool) : (l.map fun i => b2i (p i)).sum = (l.countP p : Nat) := by
  rw [← len_sum, List.countP_eq_length_filter]
theorem len_but (hr : 0 ≤ root ∧ root < n) : (((upto n).filter (fun u => decide (u ≠ root))).length : Int) = n - 1 := by
  have h1 : (upto n).length = (upto n).countP (fun u => decide (u ≠ root)) + (upto n).countP (fun u => decide (u = root)) := by
    have := List.length_eq_countP_add_countP (fun u => decide (u ≠ root)) (l := upto n)
    refine this.trans ?_
    congr 1
    refine List.countP_congr fun a _ => ?_
    by_cases e : a = root <;> simp [e]
  have h2 : (upto n).countP (fun u => decide (u = root)) = 1 := by
    have h3 := (nodup_upto n).count (a := root)
    rw [if_pos (mem_upto.2 hr), List.count] at h3
    rw [← h3]
    refine List.countP_congr fun a _ => ?_
    simp
  rw [upto_length] at h1
  rw [← List.countP_eq_length_filter]
  omega
theorem arbor_one (N : NetA n arcs root) (h : arborB arcs n s root = true) {v : Int} (v0 : 0 ≤ v) (vn : v < n) (hv : v ≠ root) : s.countP (entS arcs [v]) = 1 := by
  obtain ⟨hp, hl, hc⟩ := arborB_iff.1 h
  have hpl : Plc arcs s := hp.lt
  have hge : ∀ u ∈ (upto n).filter (fun u => decide (u ≠ root)), (1 : Int) ≤ ((s.countP (entS arcs [u]) : Nat) : Int) := by
    intro u hu
    simp only [List.mem_filter, mem_upto, decide_eq_true_eq] at hu
    obtain ⟨i, hi, he⟩ := cut_entered N hpl hc (S := [u]) ⟨.one (by have := N.nle; omega), by simpa using hu.1⟩ (by simp) (by simpa using fun e => hu.2 e.symm)
    have := List.countP_pos_iff.2 ⟨i, hi, he⟩
    omega
  have hlen := len_but N.root
  have hle : (((upto n).filter (fun u => decide (u ≠ root))).map fun u => ((s.countP (entS arcs [u]) : Nat) : Int)).sum ≤ n - 1 := by
    have e1 : (((upto n).filter (fun u => decide (u ≠ root))).map fun u => ((s.countP (entS arcs [u]) : Nat) : Int)).sum =
        (s.map fun i => (((upto n).filter (fun u => decide (u ≠ root))).map fun u => b2i (entS arcs [u] i)).sum).sum := by
      rw [← sum_comm]
      exact sum_congr fun u _ => (sum_b2i_count s _).symm
    rw [e1]
    have e2 : (s.map fun i => (((upto n).filter (fun u => decide (u ≠ root))).map fun u => b2i (entS arcs [u] i)).sum).sum ≤ (s.map fun _ => (1 : Int)).sum := by
      refine sum_le fun i _ => ?_
      refine Int.le_trans (sum_le (g := fun u => b2i (decide (hdA arcs i = u))) fun u _ => ?_) ?_
      · simp only [entS, List.mem_singleton]
        by_cases e : hdA arcs i = u <;> by_cases e' : tlA arcs i = u <;> simp [e, e', b2i]
      · rw [sum_b2i ((nodup_upto n).filter _)]
        unfold b2i; split <;> omega
    refine Int.le_trans e2 ?_
    rw [sum_const_int]
    omega
  have hall := sum_eq_all (f := fun _ => (1 : Int)) (g := fun u => ((s.countP (entS arcs [u]) : Nat) : Int)) hge (by
    have := sum_le hge
    rw [sum_const_int] at this ⊢
    omega) v (by simp only [List.mem_filter, mem_upto, decide_eq_true_eq]; exact ⟨⟨v0, vn⟩, hv⟩)
  omega
theorem arbor_arc (N : NetA n arcs root) (h : arborB arcs n s root = true) {i : Int} (hi : i ∈ s) : hdA arcs i ≠ root ∧ tlA arcs i ≠ hdA arcs i := by
  obtain ⟨hp, hl, hc⟩ := arborB_iff.1 h
  have hpl : Plc arcs s := hp.lt
  -- count over all vertices but the root: as many as arcs
  have e1 : (((upto n).filter (fun u => decide (u ≠ root))).map fun u => ((s.countP (entS arcs [u]) : Nat) : Int)).sum =
      (s.map fun i => (((upto n).filter (fun u => decide (u ≠ root))).map fun u => b2i (entS arcs [u] i)).sum).sum := by
    rw [← sum_comm]
    exact sum_congr fun u _ => (sum_b2i_count s _).symm
  have e2 : (((upto n).filter (fun u => decide (u ≠ root))).map fun u => ((s.countP (entS arcs [u]) : Nat) : Int)).sum = (((upto n).filter (fun u => decide (u ≠ root))).map fun _ => (1 : Int)).sum := by
    refine sum_congr fun u hu => ?_
    simp only [List.mem_filter, mem_upto, decide_eq_true_eq] at hu
    rw [arbor_one N h hu.1.1 hu.1.2 hu.2]; rfl
  have hlen : (((upto n).filter (fun u => decide (u ≠ root))).map fun _ => (1 : Int)).sum = n - 1 := by
    rw [sum_const_int, len_but N.root]
  have hle : ∀ i ∈ s, (((upto n).filter (fun u => decide (u ≠ root))).map fun u => b2i (entS arcs [u] i)).sum ≤ b2i (decide (hdA arcs i ≠ root ∧ tlA arcs i ≠ hdA arcs i)) := by
    intro i hi
    have he : ∀ u, b2i (entS arcs [u] i) = if tlA arcs i ≠ hdA arcs i then b2i (decide (hdA arcs i = u)) else 0 := by
      intro u
      simp only [entS, List.mem_singleton]
      by_cases e : hdA arcs i = u <;> by_cases e' : tlA arcs i = hdA arcs i
      · subst e; simp [e', b2i]
      · subst e; simp [e', b2i]
      · simp [e, e', b2i]
      · simp [e, e', b2i]
    simp only [he]
    by_cases e' : tlA arcs i = hdA arcs i
    · simp only [e', ne_eq, not_true_eq_false, if_false, and_false, decide_false]
      rw [sum_zero]; simp [b2i]
    · simp only [e', ne_eq, not_false_eq_true, if_true, and_true]
      rw [sum_b2i ((nodup_upto n).filter _)]
      by_cases e : hdA arcs i = root
      · simp [e, b2i]
      · obtain ⟨_, q⟩ := N.ends i (hpl i hi).1 (hpl i hi).2
        simp [e, b2i, mem_upto, q]
  have hsum : (s.map fun i => (1 : Int)).sum ≤ (s.map fun i => b2i (decide (hdA arcs i ≠ root ∧ tlA arcs i ≠ hdA arcs i))).sum := by
    refine Int.le_trans ?_ (sum_le hle)
    rw [← e1, e2, hlen, sum_const_int]
    omega
  have hle2 : ∀ i ∈ s, b2i (decide (hdA arcs i ≠ root ∧ tlA arcs i ≠ hdA arcs i)) ≤ 1 := fun i _ => by unfold b2i; split <;> omega
  have := sum_eq_all (f := fun i => b2i (decide (hdA arcs i ≠ root ∧ tlA arcs i ≠ hdA arcs i))) (g := fun _ => (1 : Int)) hle2 (by have := sum_le hle2; omega) i hi
  by_cases e : hdA arcs i ≠ root ∧ tlA arcs i ≠ hdA arcs i
  · exact e
  · simp [e, b2i] at this
end
end Go.Am
namespace Go.Am
set_option linter.unusedVariables false
set_option linter.unusedSimpArgs false
def costS (cost : Int → Int) (s : List Int) : Int := (s.map cost).sum
def sumY (cuts : List (List Int × Int)) : Int := (cuts.map fun c => c.2).sum
section
variable {arcs : List (Int × Int)} {n : Nat} {root : Int} {s : List Int} {cost : Int → Int}
theorem sum_mul {α : Type} (l : List α) (y : Int) (f : α → Int) : (l.map fun x => y * f x).sum = y * (l.map f).sum := by
  induction l with
  | nil => simp
  | cons a l ih => simp only [List.map_cons, List.sum_cons, ih, Int.mul_add]
theorem paid_sum (cuts : List (List Int × Int)) (s : List Int) : (s.map (paidC arcs cuts)).sum = (cuts.map fun c => c.2 * ((s.countP (entS arcs c.1) : Nat) : Int)).sum := by
  have e : ∀ i, paidC arcs cuts i = (cuts.map fun c => c.2 * b2i (entS arcs c.1 i)).sum := by
    intro i
    rw [paidC]
    refine sum_congr fun c _ => ?_
    by_cases a : hdA arcs i ∈ c.1 <;> by_cases b : tlA arcs i ∈ c.1 <;> simp [entS, a, b, b2i]
  have e' : (s.map (paidC arcs cuts)).sum = (s.map fun i => (cuts.map fun c => c.2 * b2i (entS arcs c.1 i)).sum).sum := sum_congr fun i _ => e i
  rw [e', sum_comm]
  refine sum_congr fun c _ => ?_
  rw [sum_mul, sum_b2i_count]
structure ABnd (arcs : List (Int × Int)) (st : ASt) : Prop where
  sng : ∀ c ∈ st.cuts, ∀ v ∈ c.1, ∃ i ∈ st.tight, hdA arcs i = v ∧ tlA arcs i ≠ v
  bnd : ∀ i : Int, 0 ≤ i → i < arcs.length → tlA arcs i ≠ hdA arcs i → (∃ c ∈ st.cuts, hdA arcs i ∈ c.1) → st.rest i ≤ 4294967296
  cutb : ∀ c ∈ st.cuts, -4294967296 ≤ c.2 ∧ c.2 ≤ 4294967296
theorem paid_zero {cuts : List (List Int × Int)} {i : Int} (h : ∀ c ∈ cuts, hdA arcs i ∈ c.1 → tlA arcs i ∈ c.1) : paidC arcs cuts i = 0 := by
  rw [paidC]
  refine (sum_congr (g := fun _ => (0 : Int)) fun c hc => ?_).trans (sum_zero cuts)
  rw [if_neg fun e => e.2 (h c hc e.1)]
theorem ABnd.rest {st : ASt} (h : AInv arcs n root cost st) (hb : ABnd arcs st) (hc : ∀ i : Int, 0 ≤ i → i < arcs.length → -2147483648 ≤ cost i ∧ cost i ≤ 2147483648) (i : Int) (i0 : 0 ≤ i) (i1 : i < arcs.length) : -2147483648 ≤ st.rest i ∧ st.rest i ≤ 4294967296 := by
  have e := h.rest i i0 i1
  have := hc i i0 i1
  by_cases hl : tlA arcs i = hdA arcs i
  · rw [paid_zero fun c _ hh => by rw [hl]; exact hh] at e
    omega
  · by_cases ht : ∃ c ∈ st.cuts, hdA arcs i ∈ c.1
    · have := h.nonneg i i0 i1 hl ht
      have := hb.bnd i i0 i1 hl ht
      omega
    · rw [paid_zero fun c hc hh => absurd ⟨c, hc, hh⟩ ht] at e
      omega
theorem ABnd.pay {st : ASt} (N : NetA n arcs root) (hc : ∀ i : Int, 0 ≤ i → i < arcs.length → -2147483648 ≤ cost i ∧ cost i ≤ 2147483648)
    (h : AInv arcs n root cost st) (hb : ABnd arcs st) {s : List Int} (t : TurnS arcs st.tight n root s) (hne : entA arcs no0 s ≠ []) : ABnd arcs (payA arcs st s) := by
  obtain ⟨im, him, hmin⟩ := least_mem (rest := st.rest) hne
  have hle := fun i hi => least_le (rest := st.rest) (l := entA arcs no0 s) (i := i) hi
  generalize hy : leastR st.rest (entA arcs no0 s) = y at *
  have hst : payA arcs st s = ⟨fun i => if i ∈ entA arcs no0 s then st.rest i - y else st.rest i, st.tight ++ (entA arcs no0 s).filter (fun i => decide ((if i ∈ entA arcs no0 s then st.rest i - y else st.rest i) = 0)), st.cuts ++ [(s, y)]⟩ := by
    rw [payA, hy]
  have hnn := (h.pay N t hne).1.nonneg
  have hrb := ABnd.rest h hb hc
  have hconnt : s.length ≠ 1 → ∀ x ∈ s, ∃ i ∈ st.tight, tlA arcs i ∈ s ∧ hdA arcs i = x ∧ tlA arcs i ≠ x := by
    intro hl x hx
    obtain ⟨z, hz, hzx⟩ := two_of_len t.pts.set.up t.ne hl x hx
    obtain ⟨i, hi, h1, h2, _, hX⟩ := t.conn (fun u => decide (u ≠ x)) ⟨z, hz, by simpa using hzx⟩ ⟨x, hx, by simp⟩
    exact ⟨i, hi, h1, by simpa using hX, by simpa using h2⟩
  -- a set of one was not touched
  have hsng : s.length = 1 → ∀ x ∈ s, ∀ c ∈ st.cuts, x ∉ c.1 := by
    intro hl x hx c hcc hxc
    obtain ⟨i, hi, h1, h2⟩ := hb.sng c hcc x hxc
    obtain ⟨z, rfl⟩ := List.length_eq_one_iff.1 hl
    simp at hx
    subst hx
    have := t.free i hi (by simp [h1])
    simp at this
    exact h2 this
  have htouched : s.length ≠ 1 → ∀ x ∈ s, ∃ c ∈ st.cuts, x ∈ c.1 := by
    intro hl x hx
    obtain ⟨i, hi, _, h2, _⟩ := hconnt hl x hx
    obtain ⟨_, c, hc, hin⟩ := h.touch i hi
    exact ⟨c, hc, by rw [← h2]; exact hin⟩
  obtain ⟨⟨m0, m1⟩, mh, mt⟩ := mem_ent.1 him
  have hyb : -4294967296 ≤ y ∧ y ≤ 4294967296 := by have := hrb im m0 m1; rw [← hmin] at this; omega
  rw [hst]
  rw [hst] at hnn
  refine ⟨fun c hcc v hv => ?_, fun i i0 i1 hlp ⟨c, hcc, hin⟩ => ?_, fun c hcc => ?_⟩
  · rcases List.mem_append.1 hcc with hcc | hcc
    · obtain ⟨i, hi, h1⟩ := hb.sng c hcc v hv
      exact ⟨i, List.mem_append.2 (.inl hi), h1⟩
    · rw [List.mem_singleton] at hcc
      subst hcc
      by_cases hl : s.length = 1
      · obtain ⟨z, rfl⟩ := List.length_eq_one_iff.1 hl
        simp at hv mh mt
        subst hv
        exact ⟨im, List.mem_append.2 (.inr (List.mem_filter.2 ⟨him, by simp only [if_pos him, decide_eq_true_eq]; omega⟩)), mh, mt⟩
      · obtain ⟨i, hi, _, h2⟩ := hconnt hl v hv
        exact ⟨i, List.mem_append.2 (.inl hi), h2⟩
  · by_cases he : i ∈ entA arcs no0 s
    · simp only [if_pos he]
      obtain ⟨_, eh, et⟩ := mem_ent.1 he
      by_cases hl : s.length = 1
      · have hu := hsng hl
        have e1 := h.rest i i0 i1
        have e2 := h.rest im m0 m1
        rw [paid_zero fun c hc hh => absurd hh (hu _ eh c hc)] at e1
        rw [paid_zero fun c hc hh => absurd hh (hu _ mh c hc)] at e2
        have := hc i i0 i1
        have := hc im m0 m1
        omega
      · have h1 := hb.bnd i i0 i1 hlp (htouched hl _ eh)
        have h2 := h.nonneg im m0 m1 (fun e => mt (by rw [e]; exact mh)) (htouched hl _ mh)
        omega
    · simp only [if_neg he]
      exact (hrb i i0 i1).2
  · rcases List.mem_append.1 hcc with hcc | hcc
    · exact hb.cutb c hcc
    · rw [List.mem_singleton] at hcc
      subst hcc
      exact hyb
theorem ABnd.start (cost : Int → Int) : ABnd arcs ⟨cost, [], []⟩ := ⟨fun c hc => (nomatch hc), fun i _ _ _ h => (by obtain ⟨c, hc, _⟩ := h; cases hc), fun c hc => (nomatch hc)⟩
structure AKnow (arcs : List (Int × Int)) (n : Nat) (root : Int) (cost : Int → Int) (st : ASt) : Prop where
  inv : AInv arcs n root cost st
  bnd : ABnd arcs st
theorem run_know (N : NetA n arcs root) (hc : ∀ i : Int, 0 ≤ i → i < arcs.length → -2147483648 ≤ cost i ∧ cost i ≤ 2147483648) (f : Nat) : ∀ st, AKnow arcs n root cost st → AKnow arcs n root cost (runA arcs n root f st).1 := by
  induction f with
  | zero => intro st h; exact h
  | succ f ih =>
    intro st h
    rw [runA]
    cases hn : nxtL arcs st.tight n root with
    | none => exact h
    | some s =>
      have ht := next_some N h.inv.plc hn
      by_cases he : entA arcs no0 s = []
      · simp only [if_pos he]; exact h
      · simp only [if_neg he]
        exact ih _ ⟨(h.inv.pay N ht he).1, h.bnd.pay N hc h.inv ht he⟩
theorem touched_all (N : NetA n arcs root) {st : ASt} (h : AInv arcs n root cost st) (hall : (comeL arcs st.tight n root).length = n) {v : Int} (v0 : 0 ≤ v) (vn : v < n) (hv : v ≠ root) : ∃ c ∈ st.cuts, v ∈ c.1 := by
  obtain ⟨i, hi, he⟩ := cut_entered N h.plc hall (S := [v]) ⟨.one (by have := N.nle; omega), by simpa using ⟨v0, vn⟩⟩ (by simp) (by simpa using fun e => hv e.symm)
  simp [entS] at he
  obtain ⟨_, c, hc, hin⟩ := h.touch i hi
  exact ⟨c, hc, by rw [← he.1]; exact hin⟩
theorem no_arbor (N : NetA n arcs root) {S : List Int} {tight : List Int} (t : TurnS arcs tight n root S) (he : entA arcs no0 S = []) (s : List Int) : arborB arcs n s root = false := by
  cases h : arborB arcs n s root with
  | false => rfl
  | true =>
    obtain ⟨hp, hl, hc⟩ := arborB_iff.1 h
    obtain ⟨i, hi, hin⟩ := cut_entered N hp.lt hc t.pts t.ne t.nroot
    simp only [entS, Bool.and_eq_true, decide_eq_true_eq, Bool.not_eq_true', decide_eq_false_iff_not] at hin
    have : i ∈ entA arcs no0 S := mem_ent.2 ⟨hp.lt i hi, hin⟩
    rw [he] at this
    cases this
theorem cost_split {st : ASt} (h : AInv arcs n root cost st) {s : List Int} (hs : Plc arcs s) : costS cost s = (s.map st.rest).sum + (st.cuts.map fun c => c.2 * ((s.countP (entS arcs c.1) : Nat) : Int)).sum := by
  rw [← paid_sum, ← sum_add, costS]
  refine sum_congr fun i hi => ?_
  have := h.rest i (hs i hi).1 (hs i hi).2
  omega
theorem cost_ge (N : NetA n arcs root) {st : ASt} (h : AInv arcs n root cost st) (hall : (comeL arcs st.tight n root).length = n) {s : List Int} (hs : arborB arcs n s root = true) : sumY st.cuts ≤ costS cost s := by
  obtain ⟨hp, hl, hc⟩ := arborB_iff.1 hs
  rw [cost_split h hp.lt]
  have h1 : 0 ≤ (s.map st.rest).sum := by
    refine Int.le_trans (Int.le_of_eq (sum_zero s).symm) (sum_le fun i hi => ?_)
    obtain ⟨a, b⟩ := arbor_arc N hs hi
    obtain ⟨i0, i1⟩ := hp.lt i hi
    obtain ⟨_, q0, qn⟩ := N.ends i i0 i1
    exact h.nonneg i i0 i1 b (touched_all N h hall q0 qn a)
  have h2 : sumY st.cuts ≤ (st.cuts.map fun c => c.2 * ((s.countP (entS arcs c.1) : Nat) : Int)).sum := by
    refine sum_le fun c hcc => ?_
    obtain ⟨c1, c2, c3, c4⟩ := h.cut c hcc
    rcases c4 with c4 | c4
    · obtain ⟨v, hv⟩ := List.length_eq_one_iff.1 c4
      rw [hv] at c1 c3 ⊢
      obtain ⟨v0, vn⟩ := c1.lt v (by simp)
      rw [arbor_one N hs v0 vn (fun e => c3 (by simp [e]))]
      omega
    · obtain ⟨i, hi, he⟩ := cut_entered N hp.lt hc c1 c2 c3
      have := List.countP_pos_iff.2 ⟨i, hi, he⟩
      have h3 : (1 : Int) ≤ ((s.countP (entS arcs c.1) : Nat) : Int) := by omega
      have := Int.mul_le_mul_of_nonneg_left h3 c4
      omega
  omega
theorem grow_cost (N : NetA n arcs root) {st : ASt} (h : AInv arcs n root cost st) (hall : (comeL arcs st.tight n root).length = n) : costS cost (growT arcs root st.tight n) = sumY st.cuts := by
  have hp := growT_pts (tight := st.tight) N
  have hsub : ∀ i ∈ growT arcs root st.tight n, i ∈ st.tight := fun i hi => iterT_sub _ i ((mem_growT N h.plc).1 hi)
  rw [cost_split h hp.lt]
  have h1 : ((growT arcs root st.tight n).map st.rest).sum = 0 := by
    rw [← sum_zero (growT arcs root st.tight n)]
    exact sum_congr fun i hi => h.zero i (hsub i hi)
  have h2 : (st.cuts.map fun c => c.2 * (((growT arcs root st.tight n).countP (entS arcs c.1) : Nat) : Int)).sum = sumY st.cuts := by
    refine sum_congr fun c hcc => ?_
    obtain ⟨c1, c2, c3, c4⟩ := h.cut c hcc
    obtain ⟨p, hp', q1, q2⟩ := h.conn c hcc
    obtain ⟨x, hx⟩ := List.exists_mem_of_ne_nil c.1 c2
    have hhas := growT_all N h.plc hall x (c1.lt x hx).1 (c1.lt x hx).2
    have hperm : (growT arcs root st.tight n).Perm (iterT arcs root st.tight (n - 1)).out := by
      refine (List.perm_ext_iff_of_nodup hp.set.nodup (GInv.iterT N h.plc _).nodup).2 fun i => mem_growT N h.plc
    rw [hperm.countP_eq]
    rcases once_cut N h.plc c3 q1 q2 (n - 1) with ⟨a, _⟩ | ⟨_, b⟩
    · rw [a x hx] at hhas; cases hhas
    · rw [b]; omega
  omega
def runC (arcs : List (Int × Int)) (n : Nat) (root : Int) (cost : Int → Int) : ASt × Option (List Int) := runA arcs n root (arcs.length + 1) ⟨cost, [], []⟩
theorem runC_know (N : NetA n arcs root) (hc : ∀ i : Int, 0 ≤ i → i < arcs.length → -2147483648 ≤ cost i ∧ cost i ≤ 2147483648) : AKnow arcs n root cost (runC arcs n root cost).1 := run_know N hc _ _ ⟨.start cost, .start cost⟩
theorem runC_end (N : NetA n arcs root) : match (runC arcs n root cost).2 with
      | none => (comeL arcs (runC arcs n root cost).1.tight n root).length = n
      | some s => TurnS arcs (runC arcs n root cost).1.tight n root s ∧ entA arcs no0 s = [] := (run_end N (arcs.length + 1) ⟨cost, [], []⟩ (.start cost) (by simp)).2
def isArb (arcs : List (Int × Int)) (n : Nat) (root : Int) : Prop := ∃ s, arborB arcs n s root = true
structure BestA (arcs : List (Int × Int)) (n : Nat) (root : Int) (cost : Int → Int) (t : List Int) : Prop where
  arb : arborB arcs n t root = true
  least : ∀ s, arborB arcs n s root = true → costS cost t ≤ costS cost s
theorem runC_best (N : NetA n arcs root) (hc : ∀ i : Int, 0 ≤ i → i < arcs.length → -2147483648 ≤ cost i ∧ cost i ≤ 2147483648) (h : (runC arcs n root cost).2 = none) :
    BestA arcs n root cost (growT arcs root (runC arcs n root cost).1.tight n) ∧ costS cost (growT arcs root (runC arcs n root cost).1.tight n) = sumY (runC arcs n root cost).1.cuts := by
  have hk := (runC_know N hc).inv
  have he := runC_end (cost := cost) N
  rw [h] at he
  have hg := grow_cost N hk he
  exact ⟨⟨growT_arbor N hk.plc he, fun s hs => by rw [hg]; exact cost_ge N hk he hs⟩, hg⟩
theorem runC_none (N : NetA n arcs root) {S : List Int} (h : (runC arcs n root cost).2 = some S) : ¬ isArb arcs n root := by
  have he := runC_end (cost := cost) N
  rw [h] at he
  rintro ⟨s, hs⟩
  rw [no_arbor N he.1 he.2 s] at hs
  cases hs
end
end Go.Am
namespace Go.Am
open Go Go.Proofs
set_option linter.unusedVariables false
set_option linter.unusedSimpArgs false
variable {w0 : World}
attribute [local irreducible] AWP ACalls
attribute [local congr] acalls_congr
theorem indexS_ret {l : List Int} {x : Int} (hl : okLen l) : Ret Try.prog w0 78 [ints l, I x] (I (idxI (fun y => decide (y = x)) l)) := by
  intro H
  refine w_enter Try.func78 rfl Try.ntmps78 (ts := [4]) rfl (by simp) (by kernel_rfl) ?_
  repeat' (first
    | (with_reducible refine awp_skip ?_)
    | (with_reducible refine then_any ?_)
    | (with_reducible refine then_ret ?_)
    | (with_reducible refine then_exit ?_)
    | (with_reducible refine inBlock_normal ?_)
    | (with_reducible refine inBlock_ret ?_)
    | (with_reducible refine inBlock_hit ?_)
    | (with_reducible refine inBlock_miss (by decide) ?_)
    | (with_reducible refine awp_ret ?_)
    | (with_reducible refine awp_exit ?_)
    | (with_reducible refine post_ret ?_)
    | (with_reducible refine post_normal ?_)
    | (with_reducible refine awp_block ?_)
    | (with_reducible refine awp_scope_ret ?_)
    | (with_reducible refine awp_label ?_)
    | (with_reducible refine v_reg [] (fun K hK => ?_))
    | (with_reducible refine v_reg1 [] (fun K hK => ?_))
    | (with_reducible refine v_draw mixed [] [] (by kernel_rfl) (fun K hK => ?_))
    | (with_reducible refine v_draw1 mixed [] [] (by kernel_rfl) (fun K hK => ?_))
    | (with_reducible refine ev_nil (hK _ _ ?_); clear hK K)
    | (with_reducible refine ed_nil (hK _ _ ?_); clear hK K)
    | ((first | with_reducible refine ev_cons (fun K' hK' => ?_) | with_reducible refine ed_cons (fun K' hK' => ?_) | (with_reducible refine ev_id ?_; refine ev_guard rfl (fun K' hK' => ?_)) | (with_reducible refine ed_id ?_; refine ed_guard rfl (fun K' hK' => ?_))); simp [ints]; repeat' (first | (with_reducible refine hK' _ _ ?_; clear hK' K') | (with_reducible refine And.intro ?_ ?_) | (with_reducible intro hg) | (clear hK' K'; omega)))
    | (with_reducible refine w_cond (fun A B hA hB => ?_); simp [ints]; repeat' (first | (with_reducible refine hA ?_; clear hA hB A B) | (with_reducible refine hB ?_; clear hA hB A B) | (with_reducible refine And.intro ?_ ?_) | (with_reducible intro hc)))
    | (with_reducible refine awp_seq ?_))
  refine awp_loop (fun env h => ∃ k : Nat, k ≤ l.length ∧ env 8 = I k ∧ env 7 = I l.length ∧ env 0 = ints l ∧ env 1 = I x ∧ (∀ y ∈ l.take k, decide (y = x) = false) ∧ h = H) (fun env _ => l.length - natA (env 8)) ?_ ?_
  · exact ⟨0, by omega, by simp, by simp, by simp [ints], by simp, by simp, rfl⟩
  rintro env h ⟨k, hk, h8, h7, h0, h1, ht, rfl⟩
  have hnat : natA (env 8) = k := by simp [h8]
  rw [hnat]; clear hnat
  by_cases hlt : k < l.length
  · by_cases e : l[k] = x
    · have := idxI_take hlt ht (p := fun y => decide (y = x)) (by simp [e])
      repeat' (first
        | (with_reducible refine awp_skip ?_)
        | (with_reducible refine then_any ?_)
        | (with_reducible refine then_ret ?_)
        | (with_reducible refine then_exit ?_)
        | (with_reducible refine inBlock_normal ?_)
        | (with_reducible refine inBlock_ret ?_)
        | (with_reducible refine inBlock_hit ?_)
        | (with_reducible refine inBlock_miss (by decide) ?_)
        | (with_reducible refine awp_ret ?_)
        | (with_reducible refine awp_exit ?_)
        | (with_reducible refine post_ret ?_)
        | (with_reducible refine post_normal ?_)
        | (with_reducible refine awp_block ?_)
        | (with_reducible refine awp_scope_ret ?_)
        | (with_reducible refine awp_label ?_)
        | (with_reducible refine v_reg [] (fun K hK => ?_))
        | (with_reducible refine v_reg1 [] (fun K hK => ?_))
        | (with_reducible refine v_draw mixed [] [] (by kernel_rfl) (fun K hK => ?_))
        | (with_reducible refine v_draw1 mixed [] [] (by kernel_rfl) (fun K hK => ?_))
        | (with_reducible refine ev_nil (hK _ _ ?_); clear hK K)
        | (with_reducible refine ed_nil (hK _ _ ?_); clear hK K)
        | ((first | with_reducible refine ev_cons (fun K' hK' => ?_) | with_reducible refine ed_cons (fun K' hK' => ?_) | (with_reducible refine ev_id ?_; refine ev_guard rfl (fun K' hK' => ?_)) | (with_reducible refine ed_id ?_; refine ed_guard rfl (fun K' hK' => ?_))); simp [h8, h7, h0, h1, ints, hlt, e]; repeat' (first | (with_reducible refine hK' _ _ ?_; clear hK' K') | (with_reducible refine And.intro ?_ ?_) | (with_reducible intro hg) | (clear hK' K'; omega)))
        | (with_reducible refine w_cond (fun A B hA hB => ?_); simp [h8, h7, h0, h1, ints, hlt, e]; repeat' (first | (with_reducible refine hA ?_; clear hA hB A B) | (with_reducible refine hB ?_; clear hA hB A B) | (with_reducible refine And.intro ?_ ?_) | (with_reducible intro hc)))
        | (with_reducible refine awp_seq ?_))
      simp [this]
    · have e' : ¬ x = l[k] := fun h => e h.symm
      repeat' (first
        | (with_reducible refine awp_skip ?_)
        | (with_reducible refine then_any ?_)
        | (with_reducible refine then_ret ?_)
        | (with_reducible refine then_exit ?_)
        | (with_reducible refine inBlock_normal ?_)
        | (with_reducible refine inBlock_ret ?_)
        | (with_reducible refine inBlock_hit ?_)
        | (with_reducible refine inBlock_miss (by decide) ?_)
        | (with_reducible refine awp_ret ?_)
        | (with_reducible refine awp_exit ?_)
        | (with_reducible refine post_ret ?_)
        | (with_reducible refine post_normal ?_)
        | (with_reducible refine awp_block ?_)
        | (with_reducible refine awp_scope_ret ?_)
        | (with_reducible refine awp_label ?_)
        | (with_reducible refine v_reg [] (fun K hK => ?_))
        | (with_reducible refine v_reg1 [] (fun K hK => ?_))
        | (with_reducible refine v_draw mixed [] [] (by kernel_rfl) (fun K hK => ?_))
        | (with_reducible refine v_draw1 mixed [] [] (by kernel_rfl) (fun K hK => ?_))
        | (with_reducible refine ev_nil (hK _ _ ?_); clear hK K)
        | (with_reducible refine ed_nil (hK _ _ ?_); clear hK K)
        | ((first | with_reducible refine ev_cons (fun K' hK' => ?_) | with_reducible refine ed_cons (fun K' hK' => ?_) | (with_reducible refine ev_id ?_; refine ev_guard rfl (fun K' hK' => ?_)) | (with_reducible refine ed_id ?_; refine ed_guard rfl (fun K' hK' => ?_))); simp [h8, h7, h0, h1, ints, hlt, e, e']; repeat' (first | (with_reducible refine hK' _ _ ?_; clear hK' K') | (with_reducible refine And.intro ?_ ?_) | (with_reducible intro hg) | (clear hK' K'; omega)))
        | (with_reducible refine w_cond (fun A B hA hB => ?_); simp [h8, h7, h0, h1, ints, hlt, e, e']; repeat' (first | (with_reducible refine hA ?_; clear hA hB A B) | (with_reducible refine hB ?_; clear hA hB A B) | (with_reducible refine And.intro ?_ ?_) | (with_reducible intro hc)))
        | (with_reducible refine awp_seq ?_))
      refine ⟨⟨k + 1, by omega, by simp, by simp [h7], by simp [h0], by simp [h1], fun y hy => ?_, rfl⟩, by simp; omega⟩
      rw [List.take_succ_eq_append_getElem hlt, List.mem_append, List.mem_singleton] at hy
      rcases hy with hy | rfl
      · exact ht y hy
      · simp [e]
  · have : k = l.length := by omega
    subst this
    rw [List.take_length] at ht
    have := idxI_none ht
    repeat' (first
      | (with_reducible refine awp_skip ?_)
      | (with_reducible refine then_any ?_)
      | (with_reducible refine then_ret ?_)
      | (with_reducible refine then_exit ?_)
      | (with_reducible refine inBlock_normal ?_)
      | (with_reducible refine inBlock_ret ?_)
      | (with_reducible refine inBlock_hit ?_)
      | (with_reducible refine inBlock_miss (by decide) ?_)
      | (with_reducible refine awp_ret ?_)
      | (with_reducible refine awp_exit ?_)
      | (with_reducible refine post_ret ?_)
      | (with_reducible refine post_normal ?_)
      | (with_reducible refine awp_block ?_)
      | (with_reducible refine awp_scope_ret ?_)
      | (with_reducible refine awp_label ?_)
      | (with_reducible refine v_reg [] (fun K hK => ?_))
      | (with_reducible refine v_reg1 [] (fun K hK => ?_))
      | (with_reducible refine v_draw mixed [] [] (by kernel_rfl) (fun K hK => ?_))
      | (with_reducible refine v_draw1 mixed [] [] (by kernel_rfl) (fun K hK => ?_))
      | (with_reducible refine ev_nil (hK _ _ ?_); clear hK K)
      | (with_reducible refine ed_nil (hK _ _ ?_); clear hK K)
      | ((first | with_reducible refine ev_cons (fun K' hK' => ?_) | with_reducible refine ed_cons (fun K' hK' => ?_) | (with_reducible refine ev_id ?_; refine ev_guard rfl (fun K' hK' => ?_)) | (with_reducible refine ed_id ?_; refine ed_guard rfl (fun K' hK' => ?_))); simp [h8, h7, h0, h1, ints]; repeat' (first | (with_reducible refine hK' _ _ ?_; clear hK' K') | (with_reducible refine And.intro ?_ ?_) | (with_reducible intro hg) | (clear hK' K'; omega)))
      | (with_reducible refine w_cond (fun A B hA hB => ?_); simp [h8, h7, h0, h1, ints]; repeat' (first | (with_reducible refine hA ?_; clear hA hB A B) | (with_reducible refine hB ?_; clear hA hB A B) | (with_reducible refine And.intro ?_ ?_) | (with_reducible intro hc)))
      | (with_reducible refine awp_seq ?_))
    simp [this]
theorem containsS_ret {l : List Int} {x : Int} (hl : okLen l) : Ret Try.prog w0 60 [ints l, I x] (B (decide (x ∈ l))) := by
  intro H
  have hi := idxI_any (fun y => decide (y = x)) l
  have ha : l.any (fun y => decide (y = x)) = decide (x ∈ l) := by
    rw [Bool.eq_iff_iff, List.any_eq_true]
    simp
  rw [ha] at hi
  refine w_enter Try.func60 rfl Try.ntmps60 (ts := [4]) rfl (by simp) (by kernel_rfl) ?_
  repeat' (first
    | (with_reducible refine awp_skip ?_)
    | (with_reducible refine then_any ?_)
    | (with_reducible refine then_ret ?_)
    | (with_reducible refine then_exit ?_)
    | (with_reducible refine inBlock_normal ?_)
    | (with_reducible refine inBlock_ret ?_)
    | (with_reducible refine inBlock_hit ?_)
    | (with_reducible refine inBlock_miss (by decide) ?_)
    | (with_reducible refine awp_ret ?_)
    | (with_reducible refine awp_exit ?_)
    | (with_reducible refine post_ret ?_)
    | (with_reducible refine post_normal ?_)
    | (with_reducible refine awp_block ?_)
    | (with_reducible refine awp_scope_ret ?_)
    | (with_reducible refine awp_label ?_)
    | (with_reducible refine v_reg [] (fun K hK => ?_))
    | (with_reducible refine v_reg1 [] (fun K hK => ?_))
    | (with_reducible refine v_draw mixed [] [] (by kernel_rfl) (fun K hK => ?_))
    | (with_reducible refine v_draw1 mixed [] [] (by kernel_rfl) (fun K hK => ?_))
    | (with_reducible refine ev_nil (hK _ _ ?_); clear hK K)
    | (with_reducible refine ed_nil (hK _ _ ?_); clear hK K)
    | ((first | with_reducible refine ev_cons (fun K' hK' => ?_) | with_reducible refine ed_cons (fun K' hK' => ?_) | (with_reducible refine ev_id ?_; refine ev_guard rfl (fun K' hK' => ?_)) | (with_reducible refine ed_id ?_; refine ed_guard rfl (fun K' hK' => ?_))); simp [ints]; repeat' (first | (with_reducible refine hK' _ _ ?_; clear hK' K') | (with_reducible refine Ret.use (indexS_ret hl) ?_; try simp [ints]) | (with_reducible refine And.intro ?_ ?_) | (with_reducible intro hg) | (clear hK' K'; omega)))
    | (with_reducible refine w_cond (fun A B hA hB => ?_); simp [ints]; repeat' (first | (with_reducible refine hA ?_; clear hA hB A B) | (with_reducible refine hB ?_; clear hA hB A B) | (with_reducible refine And.intro ?_ ?_) | (with_reducible intro hc)))
    | (with_reducible refine awp_seq ?_))
  simp [hi]
theorem entersA_ret {arcs : List (Int × Int)} {s : List Int} (ha : smLen arcs) (hs : okLen s) : Ret Try.prog w0 49 [pairs arcs, ints s] (ints (entA arcs no0 s)) := by
  intro H
  refine w_enter Try.func49 rfl Try.ntmps49 (ts := [4]) rfl (by simp) (by kernel_rfl) ?_ |> ret_frz
  repeat' (first
    | (with_reducible refine awp_skip ?_)
    | (with_reducible refine then_any ?_)
    | (with_reducible refine then_ret ?_)
    | (with_reducible refine then_exit ?_)
    | (with_reducible refine inBlock_normal ?_)
    | (with_reducible refine inBlock_ret ?_)
    | (with_reducible refine inBlock_hit ?_)
    | (with_reducible refine inBlock_miss (by decide) ?_)
    | (with_reducible refine awp_ret ?_)
    | (with_reducible refine awp_exit ?_)
    | (with_reducible refine post_ret ?_)
    | (with_reducible refine post_normal ?_)
    | (with_reducible refine awp_block ?_)
    | (with_reducible refine awp_scope_ret ?_)
    | (with_reducible refine awp_label ?_)
    | (with_reducible refine v_reg [5] (fun K hK => ?_))
    | (with_reducible refine v_reg1 [5] (fun K hK => ?_))
    | (with_reducible refine v_draw mixed [5] [] (by kernel_rfl) (fun K hK => ?_))
    | (with_reducible refine v_draw1 mixed [5] [] (by kernel_rfl) (fun K hK => ?_))
    | (with_reducible refine ev_nil (hK _ _ ?_); clear hK K)
    | (with_reducible refine ed_nil (hK _ _ ?_); clear hK K)
    | ((first | with_reducible refine ev_cons (fun K' hK' => ?_) | with_reducible refine ed_cons (fun K' hK' => ?_) | (with_reducible refine ev_id ?_; refine ev_guard rfl (fun K' hK' => ?_)) | (with_reducible refine ed_id ?_; refine ed_guard rfl (fun K' hK' => ?_))); simp [pairs, ints]; repeat' (first | (with_reducible refine hK' _ _ ?_; clear hK' K') | (with_reducible refine And.intro ?_ ?_) | (with_reducible intro hg) | (clear hK' K'; omega)))
    | (with_reducible refine w_cond (fun A B hA hB => ?_); simp [pairs, ints]; repeat' (first | (with_reducible refine hA ?_; clear hA hB A B) | (with_reducible refine hB ?_; clear hA hB A B) | (with_reducible refine And.intro ?_ ?_) | (with_reducible intro hc)))
    | (with_reducible refine awp_seq ?_))
  rename_i r
  have hr : H r = none := hg
  clear hg
  refine awp_loop (fun env h => ∃ k : Nat, k ≤ arcs.length ∧ env 10 = I k ∧ env 9 = I arcs.length ∧ env 8 = pairs arcs ∧ env 1 = ints s ∧
      env 5 = .ref r 0 ((upto k).filter fun i => !no0 i && decide (hdA arcs i ∈ s) && !decide (tlA arcs i ∈ s)).length ((upto k).filter fun i => !no0 i && decide (hdA arcs i ∈ s) && !decide (tlA arcs i ∈ s)).length ∧
      Sub (upd H r (some (.arr 1 3 (((upto k).filter fun i => !no0 i && decide (hdA arcs i ∈ s) && !decide (tlA arcs i ∈ s)).map I) ((upto k).filter fun i => !no0 i && decide (hdA arcs i ∈ s) && !decide (tlA arcs i ∈ s)).length))) h) (fun env _ => arcs.length - natA (env 10)) ?_ ?_
  · exact ⟨0, by omega, by simp, by simp, by simp [pairs], by simp [ints], by simp [upto_zero], by simp [upto_zero]⟩
  rintro env h ⟨k, hk, h10, h9, h8, h1, h5, hsub⟩
  have hnat : natA (env 10) = k := by simp [h10]
  rw [hnat]; clear hnat
  refine AWP.sub hsub ?_
  clear hsub h
  by_cases hlt : k < arcs.length
  · have hp := pairs_get hlt
    rw [tlA_get hlt, hdA_get hlt] at hp
    have hin := fun x => containsS_ret (w0 := w0) (l := s) (x := x) hs
    have hfs : ((upto (k + 1)).filter fun i => !no0 i && decide (hdA arcs i ∈ s) && !decide (tlA arcs i ∈ s)) = ((upto k).filter fun i => !no0 i && decide (hdA arcs i ∈ s) && !decide (tlA arcs i ∈ s)) ++ if decide (hdA arcs k ∈ s) && !decide (tlA arcs k ∈ s) then [(k : Int)] else [] := by
      rw [upto_succ, List.filter_append, List.filter_cons]
      cases h : decide (hdA arcs k ∈ s) && !decide (tlA arcs k ∈ s) <;> simp [h]
    have hle := List.length_filter_le (fun i => !no0 i && decide (hdA arcs i ∈ s) && !decide (tlA arcs i ∈ s)) (upto k)
    rw [upto_length] at hle
    generalize ((upto k).filter fun i => !no0 i && decide (hdA arcs i ∈ s) && !decide (tlA arcs i ∈ s)) = o at *
    repeat' (first
      | (with_reducible refine awp_skip ?_)
      | (with_reducible refine then_any ?_)
      | (with_reducible refine then_ret ?_)
      | (with_reducible refine then_exit ?_)
      | (with_reducible refine inBlock_normal ?_)
      | (with_reducible refine inBlock_ret ?_)
      | (with_reducible refine inBlock_hit ?_)
      | (with_reducible refine inBlock_miss (by decide) ?_)
      | (with_reducible refine awp_ret ?_)
      | (with_reducible refine awp_exit ?_)
      | (with_reducible refine post_ret ?_)
      | (with_reducible refine post_normal ?_)
      | (with_reducible refine awp_block ?_)
      | (with_reducible refine awp_scope_ret ?_)
      | (with_reducible refine awp_label ?_)
      | ((fail_if_success (with_reducible refine at_reg 5 ?_)); with_reducible refine v_reg [] (fun K hK => ?_))
      | ((fail_if_success (with_reducible refine (?_ : AWP _ _ _ (Code.region 5 _ _) _ _ _))); with_reducible refine v_reg1 [] (fun K hK => ?_))
      | ((fail_if_success (with_reducible refine at_reg 5 ?_)); with_reducible refine v_draw mixed [] [] (by kernel_rfl) (fun K hK => ?_))
      | ((fail_if_success (with_reducible refine (?_ : AWP _ _ _ (Code.region 5 _ _) _ _ _))); with_reducible refine v_draw1 mixed [] [] (by kernel_rfl) (fun K hK => ?_))
      | (with_reducible refine ev_nil (hK _ _ ?_); clear hK K)
      | (with_reducible refine ed_nil (hK _ _ ?_); clear hK K)
      | ((first | with_reducible refine ev_cons (fun K' hK' => ?_) | with_reducible refine ed_cons (fun K' hK' => ?_) | (with_reducible refine ev_id ?_; refine ev_guard rfl (fun K' hK' => ?_)) | (with_reducible refine ed_id ?_; refine ed_guard rfl (fun K' hK' => ?_))); simp [h10, h9, h8, h1, h5, pairs, ints, hlt, pairs_len, sum2, hp.1, hp.2.1, hp.2.2]; repeat' (first | (with_reducible refine hK' _ _ ?_; clear hK' K') | (with_reducible refine And.intro ?_ ?_) | (with_reducible intro hg) | (clear hK' K'; omega)))
      | (with_reducible refine w_cond (fun A B hA hB => ?_); simp [h10, h9, h8, h1, h5, pairs, ints, hlt, pairs_len, sum2, hp.1, hp.2.1, hp.2.2]; repeat' (first | (with_reducible refine hA ?_; clear hA hB A B) | (with_reducible refine hB ?_; clear hA hB A B) | (with_reducible refine And.intro ?_ ?_) | (with_reducible intro hc)))
      | ((fail_if_success (with_reducible refine at_reg 5 ?_)); with_reducible refine awp_seq ?_))
    rename_i q
    have hqr : q ≠ r := by rintro rfl; simp at hg
    have hrq : r ≠ q := Ne.symm hqr
    have hH : H q = none := by rw [if_neg hqr] at hg; exact hg
    clear hg
    by_cases e1 : hdA arcs k ∈ s
    · by_cases e2 : tlA arcs k ∈ s
      · repeat' (first
          | (with_reducible refine awp_skip ?_)
          | (with_reducible refine then_any ?_)
          | (with_reducible refine then_ret ?_)
          | (with_reducible refine then_exit ?_)
          | (with_reducible refine inBlock_normal ?_)
          | (with_reducible refine inBlock_ret ?_)
          | (with_reducible refine inBlock_hit ?_)
          | (with_reducible refine inBlock_miss (by decide) ?_)
          | (with_reducible refine awp_ret ?_)
          | (with_reducible refine awp_exit ?_)
          | (with_reducible refine post_ret ?_)
          | (with_reducible refine post_normal ?_)
          | (with_reducible refine awp_block ?_)
          | (with_reducible refine awp_scope_ret ?_)
          | (with_reducible refine awp_label ?_)
          | (with_reducible refine v_reg [] (fun K hK => ?_))
          | (with_reducible refine v_reg1 [] (fun K hK => ?_))
          | (with_reducible refine v_draw mixed [] [] (by kernel_rfl) (fun K hK => ?_))
          | (with_reducible refine v_draw1 mixed [] [] (by kernel_rfl) (fun K hK => ?_))
          | (with_reducible refine ev_nil (hK _ _ ?_); clear hK K)
          | (with_reducible refine ed_nil (hK _ _ ?_); clear hK K)
          | ((first | with_reducible refine ev_cons (fun K' hK' => ?_) | with_reducible refine ed_cons (fun K' hK' => ?_) | (with_reducible refine ev_id ?_; refine ev_guard rfl (fun K' hK' => ?_)) | (with_reducible refine ed_id ?_; refine ed_guard rfl (fun K' hK' => ?_))); simp [h10, h9, h8, h1, h5, pairs, ints, hqr, hrq, e1, e2]; repeat' (first | (with_reducible refine hK' _ _ ?_; clear hK' K') | (with_reducible refine Ret.use (hin (tlA arcs k)) ?_; try simp [h10, h9, h8, h1, h5, pairs, ints, hqr, hrq, e1, e2]) | (with_reducible refine Ret.use (hin (hdA arcs k)) ?_; try simp [h10, h9, h8, h1, h5, pairs, ints, hqr, hrq, e1, e2]) | (with_reducible refine And.intro ?_ ?_) | (with_reducible intro hg) | (clear hK' K'; omega)))
          | (with_reducible refine w_cond (fun A B hA hB => ?_); simp [h10, h9, h8, h1, h5, pairs, ints, hqr, hrq, e1, e2]; repeat' (first | (with_reducible refine hA ?_; clear hA hB A B) | (with_reducible refine hB ?_; clear hA hB A B) | (with_reducible refine And.intro ?_ ?_) | (with_reducible intro hc)))
          | (with_reducible refine awp_seq ?_))
        exact ⟨⟨k + 1, by omega, by simp, by simp [h9], by simp [h8], by simp [h1], by rw [hfs]; simp [h5, e1, e2], by rw [hfs]; simp [e1, e2]; exact sub_new (by simp [hqr, hH])⟩, by simp; omega⟩
      · repeat' (first
          | (with_reducible refine awp_skip ?_)
          | (with_reducible refine then_any ?_)
          | (with_reducible refine then_ret ?_)
          | (with_reducible refine then_exit ?_)
          | (with_reducible refine inBlock_normal ?_)
          | (with_reducible refine inBlock_ret ?_)
          | (with_reducible refine inBlock_hit ?_)
          | (with_reducible refine inBlock_miss (by decide) ?_)
          | (with_reducible refine awp_ret ?_)
          | (with_reducible refine awp_exit ?_)
          | (with_reducible refine post_ret ?_)
          | (with_reducible refine post_normal ?_)
          | (with_reducible refine awp_block ?_)
          | (with_reducible refine awp_scope_ret ?_)
          | (with_reducible refine awp_label ?_)
          | (with_reducible refine v_reg [] (fun K hK => ?_))
          | (with_reducible refine v_reg1 [] (fun K hK => ?_))
          | (with_reducible refine v_draw mixed [] [] (by kernel_rfl) (fun K hK => ?_))
          | (with_reducible refine v_draw1 mixed [] [] (by kernel_rfl) (fun K hK => ?_))
          | (with_reducible refine ev_nil (hK _ _ ?_); clear hK K)
          | (with_reducible refine ed_nil (hK _ _ ?_); clear hK K)
          | ((first | with_reducible refine ev_cons (fun K' hK' => ?_) | with_reducible refine ed_cons (fun K' hK' => ?_) | (with_reducible refine ev_id ?_; refine ev_guard rfl (fun K' hK' => ?_)) | (with_reducible refine ed_id ?_; refine ed_guard rfl (fun K' hK' => ?_))); simp [h10, h9, h8, h1, h5, pairs, ints, hqr, hrq, e1, e2]; repeat' (first | (with_reducible refine hK' _ _ ?_; clear hK' K') | (with_reducible refine Ret.use (hin (tlA arcs k)) ?_; try simp [h10, h9, h8, h1, h5, pairs, ints, hqr, hrq, e1, e2]) | (with_reducible refine Ret.use (hin (hdA arcs k)) ?_; try simp [h10, h9, h8, h1, h5, pairs, ints, hqr, hrq, e1, e2]) | (with_reducible refine And.intro ?_ ?_) | (with_reducible intro hg) | (clear hK' K'; omega)))
          | (with_reducible refine w_cond (fun A B hA hB => ?_); simp [h10, h9, h8, h1, h5, pairs, ints, hqr, hrq, e1, e2]; repeat' (first | (with_reducible refine hA ?_; clear hA hB A B) | (with_reducible refine hB ?_; clear hA hB A B) | (with_reducible refine And.intro ?_ ?_) | (with_reducible intro hc)))
          | (with_reducible refine awp_seq ?_))
        have hc' : (decide (hdA arcs k ∈ s) && !decide (tlA arcs k ∈ s)) = true := by simp [e1, e2]
        have hfs' := hfs
        rw [hc', if_pos rfl] at hfs'
        refine ⟨⟨k + 1, by omega, by simp, by simp [h9], by simp [h8], by simp [h1], by rw [hfs']; simp, ?_⟩, by simp; omega⟩
        rw [hfs', upd_comm _ _ _ hrq, upd_upd, upd_comm _ _ _ hqr]
        simp only [List.map_append, List.map_cons, List.map_nil, List.length_append, List.length_singleton]
        exact sub_new (by simp [hqr, hH])
    · repeat' (first
        | (with_reducible refine awp_skip ?_)
        | (with_reducible refine then_any ?_)
        | (with_reducible refine then_ret ?_)
        | (with_reducible refine then_exit ?_)
        | (with_reducible refine inBlock_normal ?_)
        | (with_reducible refine inBlock_ret ?_)
        | (with_reducible refine inBlock_hit ?_)
        | (with_reducible refine inBlock_miss (by decide) ?_)
        | (with_reducible refine awp_ret ?_)
        | (with_reducible refine awp_exit ?_)
        | (with_reducible refine post_ret ?_)
        | (with_reducible refine post_normal ?_)
        | (with_reducible refine awp_block ?_)
        | (with_reducible refine awp_scope_ret ?_)
        | (with_reducible refine awp_label ?_)
        | (with_reducible refine v_reg [] (fun K hK => ?_))
        | (with_reducible refine v_reg1 [] (fun K hK => ?_))
        | (with_reducible refine v_draw mixed [] [] (by kernel_rfl) (fun K hK => ?_))
        | (with_reducible refine v_draw1 mixed [] [] (by kernel_rfl) (fun K hK => ?_))
        | (with_reducible refine ev_nil (hK _ _ ?_); clear hK K)
        | (with_reducible refine ed_nil (hK _ _ ?_); clear hK K)
        | ((first | with_reducible refine ev_cons (fun K' hK' => ?_) | with_reducible refine ed_cons (fun K' hK' => ?_) | (with_reducible refine ev_id ?_; refine ev_guard rfl (fun K' hK' => ?_)) | (with_reducible refine ed_id ?_; refine ed_guard rfl (fun K' hK' => ?_))); simp [h10, h9, h8, h1, h5, pairs, ints, hqr, hrq, e1]; repeat' (first | (with_reducible refine hK' _ _ ?_; clear hK' K') | (with_reducible refine Ret.use (hin (tlA arcs k)) ?_; try simp [h10, h9, h8, h1, h5, pairs, ints, hqr, hrq, e1]) | (with_reducible refine Ret.use (hin (hdA arcs k)) ?_; try simp [h10, h9, h8, h1, h5, pairs, ints, hqr, hrq, e1]) | (with_reducible refine And.intro ?_ ?_) | (with_reducible intro hg) | (clear hK' K'; omega)))
        | (with_reducible refine w_cond (fun A B hA hB => ?_); simp [h10, h9, h8, h1, h5, pairs, ints, hqr, hrq, e1]; repeat' (first | (with_reducible refine hA ?_; clear hA hB A B) | (with_reducible refine hB ?_; clear hA hB A B) | (with_reducible refine And.intro ?_ ?_) | (with_reducible intro hc)))
        | (with_reducible refine awp_seq ?_))
      exact ⟨⟨k + 1, by omega, by simp, by simp [h9], by simp [h8], by simp [h1], by rw [hfs]; simp [h5, e1], by rw [hfs]; simp [e1]; exact sub_new (by simp [hqr, hH])⟩, by simp; omega⟩
  · have : k = arcs.length := by omega
    subst this
    repeat' (first
      | (with_reducible refine awp_skip ?_)
      | (with_reducible refine then_any ?_)
      | (with_reducible refine then_ret ?_)
      | (with_reducible refine then_exit ?_)
      | (with_reducible refine inBlock_normal ?_)
      | (with_reducible refine inBlock_ret ?_)
      | (with_reducible refine inBlock_hit ?_)
      | (with_reducible refine inBlock_miss (by decide) ?_)
      | (with_reducible refine awp_ret ?_)
      | (with_reducible refine awp_exit ?_)
      | (with_reducible refine post_ret ?_)
      | (with_reducible refine post_normal ?_)
      | (with_reducible refine awp_block ?_)
      | (with_reducible refine awp_scope_ret ?_)
      | (with_reducible refine awp_label ?_)
      | (with_reducible refine v_reg [] (fun K hK => ?_))
      | (with_reducible refine v_reg1 [] (fun K hK => ?_))
      | (with_reducible refine v_draw mixed [] [] (by kernel_rfl) (fun K hK => ?_))
      | (with_reducible refine v_draw1 mixed [] [] (by kernel_rfl) (fun K hK => ?_))
      | (with_reducible refine ev_nil (hK _ _ ?_); clear hK K)
      | (with_reducible refine ed_nil (hK _ _ ?_); clear hK K)
      | ((first | with_reducible refine ev_cons (fun K' hK' => ?_) | with_reducible refine ed_cons (fun K' hK' => ?_) | (with_reducible refine ev_id ?_; refine ev_guard rfl (fun K' hK' => ?_)) | (with_reducible refine ed_id ?_; refine ed_guard rfl (fun K' hK' => ?_))); simp [h10, h9, h8, h1, h5, pairs, ints]; repeat' (first | (with_reducible refine hK' _ _ ?_; clear hK' K') | (with_reducible refine And.intro ?_ ?_) | (with_reducible intro hg) | (clear hK' K'; omega)))
      | (with_reducible refine w_cond (fun A B hA hB => ?_); simp [h10, h9, h8, h1, h5, pairs, ints]; repeat' (first | (with_reducible refine hA ?_; clear hA hB A B) | (with_reducible refine hB ?_; clear hA hB A B) | (with_reducible refine And.intro ?_ ?_) | (with_reducible intro hc)))
      | (with_reducible refine awp_seq ?_))
    exact frz hr (by simp) rfl (by rw [cut_map]; rfl)
abbrev PredU (w0 : World) (f : FuncId) (caps : List AV) (l : List Int) (p : Int → Bool) (H : Heap) (r : Nat) : Prop := ∀ c : List Int, ∀ x ∈ l, RetAt Try.prog w0 f (I x :: caps) (B (p x)) (upd H r (some (.arr 1 3 (c.map I) l.length)))
theorem indexRefC_at {l : List Int} {f : FuncId} {caps : List AV} {p : Int → Bool} {H : Heap} {r : Nat} (hl : okLen l) (hr : H r = some (.arr 1 3 (l.map I) l.length)) (hp : PredI w0 f caps l p H) :
    RetAt Try.prog w0 84 [.ref r 0 l.length l.length, .clo f [] caps] (I (idxI p l)) H := by
  refine .of ?_
  refine w_enter Try.func84 rfl Try.ntmps84 (ts := [4]) rfl (by simp) (by kernel_rfl) ?_
  repeat' (first
    | (with_reducible refine awp_skip ?_)
    | (with_reducible refine then_any ?_)
    | (with_reducible refine then_ret ?_)
    | (with_reducible refine then_exit ?_)
    | (with_reducible refine inBlock_normal ?_)
    | (with_reducible refine inBlock_ret ?_)
    | (with_reducible refine inBlock_hit ?_)
    | (with_reducible refine inBlock_miss (by decide) ?_)
    | (with_reducible refine awp_ret ?_)
    | (with_reducible refine awp_exit ?_)
    | (with_reducible refine post_ret ?_)
    | (with_reducible refine post_normal ?_)
    | (with_reducible refine awp_block ?_)
    | (with_reducible refine awp_scope_ret ?_)
    | (with_reducible refine awp_label ?_)
    | (with_reducible refine v_reg [] (fun K hK => ?_))
    | (with_reducible refine v_reg1 [] (fun K hK => ?_))
    | (with_reducible refine v_draw mixed [] [] (by kernel_rfl) (fun K hK => ?_))
    | (with_reducible refine v_draw1 mixed [] [] (by kernel_rfl) (fun K hK => ?_))
    | (with_reducible refine ev_nil (hK _ _ ?_); clear hK K)
    | (with_reducible refine ed_nil (hK _ _ ?_); clear hK K)
    | ((first | with_reducible refine ev_cons (fun K' hK' => ?_) | with_reducible refine ed_cons (fun K' hK' => ?_) | (with_reducible refine ev_id ?_; refine ev_guard rfl (fun K' hK' => ?_)) | (with_reducible refine ed_id ?_; refine ed_guard rfl (fun K' hK' => ?_))); simp; repeat' (first | (with_reducible refine hK' _ _ ?_; clear hK' K') | (with_reducible refine And.intro ?_ ?_) | (with_reducible intro hg) | (clear hK' K'; omega)))
    | (with_reducible refine w_cond (fun A B hA hB => ?_); simp; repeat' (first | (with_reducible refine hA ?_; clear hA hB A B) | (with_reducible refine hB ?_; clear hA hB A B) | (with_reducible refine And.intro ?_ ?_) | (with_reducible intro hc)))
    | (with_reducible refine awp_seq ?_))
  refine awp_loop (fun env h => ∃ k : Nat, k ≤ l.length ∧ env 8 = I k ∧ env 7 = I l.length ∧ env 0 = .ref r 0 l.length l.length ∧ env 1 = .clo f [] caps ∧ (∀ x ∈ l.take k, p x = false) ∧ h = H) (fun env _ => l.length - natA (env 8)) ?_ ?_
  · exact ⟨0, by omega, by simp, by simp, by simp, by simp, by simp, rfl⟩
  rintro env h ⟨k, hk, h8, h7, h0, h1, ht, rfl⟩
  have hnat : natA (env 8) = k := by simp [h8]
  rw [hnat]; clear hnat
  by_cases hlt : k < l.length
  · have hpk := hp l[k] (List.getElem_mem _)
    cases hb : p l[k] with
    | true =>
      have := idxI_take hlt ht hb
      repeat' (first
        | (with_reducible refine awp_skip ?_)
        | (with_reducible refine then_any ?_)
        | (with_reducible refine then_ret ?_)
        | (with_reducible refine then_exit ?_)
        | (with_reducible refine inBlock_normal ?_)
        | (with_reducible refine inBlock_ret ?_)
        | (with_reducible refine inBlock_hit ?_)
        | (with_reducible refine inBlock_miss (by decide) ?_)
        | (with_reducible refine awp_ret ?_)
        | (with_reducible refine awp_exit ?_)
        | (with_reducible refine post_ret ?_)
        | (with_reducible refine post_normal ?_)
        | (with_reducible refine awp_block ?_)
        | (with_reducible refine awp_scope_ret ?_)
        | (with_reducible refine awp_label ?_)
        | (with_reducible refine v_reg [] (fun K hK => ?_))
        | (with_reducible refine v_reg1 [] (fun K hK => ?_))
        | (with_reducible refine v_draw mixed [] [] (by kernel_rfl) (fun K hK => ?_))
        | (with_reducible refine v_draw1 mixed [] [] (by kernel_rfl) (fun K hK => ?_))
        | (with_reducible refine ev_nil (hK _ _ ?_); clear hK K)
        | (with_reducible refine ed_nil (hK _ _ ?_); clear hK K)
        | ((first | with_reducible refine ev_cons (fun K' hK' => ?_) | with_reducible refine ed_cons (fun K' hK' => ?_) | (with_reducible refine ev_id ?_; refine ev_guard rfl (fun K' hK' => ?_)) | (with_reducible refine ed_id ?_; refine ed_guard rfl (fun K' hK' => ?_))); simp [h8, h7, h0, h1, hlt, hr]; repeat' (first | (with_reducible refine hK' _ _ ?_; clear hK' K') | ((with_reducible refine RetAt.use hpk ?_; simp only [hb]); try simp [h8, h7, h0, h1, hlt, hr]) | (with_reducible refine And.intro ?_ ?_) | (with_reducible intro hg) | (clear hK' K'; omega)))
        | (with_reducible refine w_cond (fun A B hA hB => ?_); simp [h8, h7, h0, h1, hlt, hr]; repeat' (first | (with_reducible refine hA ?_; clear hA hB A B) | (with_reducible refine hB ?_; clear hA hB A B) | (with_reducible refine And.intro ?_ ?_) | (with_reducible intro hc)))
        | (with_reducible refine awp_seq ?_))
      simp [this]
    | false =>
      repeat' (first
        | (with_reducible refine awp_skip ?_)
        | (with_reducible refine then_any ?_)
        | (with_reducible refine then_ret ?_)
        | (with_reducible refine then_exit ?_)
        | (with_reducible refine inBlock_normal ?_)
        | (with_reducible refine inBlock_ret ?_)
        | (with_reducible refine inBlock_hit ?_)
        | (with_reducible refine inBlock_miss (by decide) ?_)
        | (with_reducible refine awp_ret ?_)
        | (with_reducible refine awp_exit ?_)
        | (with_reducible refine post_ret ?_)
        | (with_reducible refine post_normal ?_)
        | (with_reducible refine awp_block ?_)
        | (with_reducible refine awp_scope_ret ?_)
        | (with_reducible refine awp_label ?_)
        | (with_reducible refine v_reg [] (fun K hK => ?_))
        | (with_reducible refine v_reg1 [] (fun K hK => ?_))
        | (with_reducible refine v_draw mixed [] [] (by kernel_rfl) (fun K hK => ?_))
        | (with_reducible refine v_draw1 mixed [] [] (by kernel_rfl) (fun K hK => ?_))
        | (with_reducible refine ev_nil (hK _ _ ?_); clear hK K)
        | (with_reducible refine ed_nil (hK _ _ ?_); clear hK K)
        | ((first | with_reducible refine ev_cons (fun K' hK' => ?_) | with_reducible refine ed_cons (fun K' hK' => ?_) | (with_reducible refine ev_id ?_; refine ev_guard rfl (fun K' hK' => ?_)) | (with_reducible refine ed_id ?_; refine ed_guard rfl (fun K' hK' => ?_))); simp [h8, h7, h0, h1, hlt, hr]; repeat' (first | (with_reducible refine hK' _ _ ?_; clear hK' K') | ((with_reducible refine RetAt.use hpk ?_; simp only [hb]); try simp [h8, h7, h0, h1, hlt, hr]) | (with_reducible refine And.intro ?_ ?_) | (with_reducible intro hg) | (clear hK' K'; omega)))
        | (with_reducible refine w_cond (fun A B hA hB => ?_); simp [h8, h7, h0, h1, hlt, hr]; repeat' (first | (with_reducible refine hA ?_; clear hA hB A B) | (with_reducible refine hB ?_; clear hA hB A B) | (with_reducible refine And.intro ?_ ?_) | (with_reducible intro hc)))
        | (with_reducible refine awp_seq ?_))
      refine ⟨⟨k + 1, by omega, by simp, by simp [h7], by simp [h0], by simp [h1], fun x hx => ?_, rfl⟩, by simp; omega⟩
      rw [List.take_succ_eq_append_getElem hlt, List.mem_append, List.mem_singleton] at hx
      rcases hx with hx | rfl
      · exact ht x hx
      · exact hb
  · have : k = l.length := by omega
    subst this
    rw [List.take_length] at ht
    have := idxI_none ht
    repeat' (first
      | (with_reducible refine awp_skip ?_)
      | (with_reducible refine then_any ?_)
      | (with_reducible refine then_ret ?_)
      | (with_reducible refine then_exit ?_)
      | (with_reducible refine inBlock_normal ?_)
      | (with_reducible refine inBlock_ret ?_)
      | (with_reducible refine inBlock_hit ?_)
      | (with_reducible refine inBlock_miss (by decide) ?_)
      | (with_reducible refine awp_ret ?_)
      | (with_reducible refine awp_exit ?_)
      | (with_reducible refine post_ret ?_)
      | (with_reducible refine post_normal ?_)
      | (with_reducible refine awp_block ?_)
      | (with_reducible refine awp_scope_ret ?_)
      | (with_reducible refine awp_label ?_)
      | (with_reducible refine v_reg [] (fun K hK => ?_))
      | (with_reducible refine v_reg1 [] (fun K hK => ?_))
      | (with_reducible refine v_draw mixed [] [] (by kernel_rfl) (fun K hK => ?_))
      | (with_reducible refine v_draw1 mixed [] [] (by kernel_rfl) (fun K hK => ?_))
      | (with_reducible refine ev_nil (hK _ _ ?_); clear hK K)
      | (with_reducible refine ed_nil (hK _ _ ?_); clear hK K)
      | ((first | with_reducible refine ev_cons (fun K' hK' => ?_) | with_reducible refine ed_cons (fun K' hK' => ?_) | (with_reducible refine ev_id ?_; refine ev_guard rfl (fun K' hK' => ?_)) | (with_reducible refine ed_id ?_; refine ed_guard rfl (fun K' hK' => ?_))); simp [h8, h7, h0, h1]; repeat' (first | (with_reducible refine hK' _ _ ?_; clear hK' K') | (with_reducible refine And.intro ?_ ?_) | (with_reducible intro hg) | (clear hK' K'; omega)))
      | (with_reducible refine w_cond (fun A B hA hB => ?_); simp [h8, h7, h0, h1]; repeat' (first | (with_reducible refine hA ?_; clear hA hB A B) | (with_reducible refine hB ?_; clear hA hB A B) | (with_reducible refine And.intro ?_ ?_) | (with_reducible intro hc)))
      | (with_reducible refine awp_seq ?_))
    simp [this]
theorem deleteC_use {l : List Int} {f : FuncId} {caps : List AV} {p : Int → Bool} {H : Heap} {r : Nat} (hl : l.length ≤ 1099511627776) (hr : H r = none) (hp : PredU w0 f caps l p H r) {K : AV → Heap → Prop}
    (k : ∀ (c : List Int) (m : Nat), c.length = l.length → m ≤ l.length → c.take m = l.filter (fun x => !p x) → K (.ref r 0 m l.length) (upd H r (some (.arr 1 3 (c.map I) l.length)))) :
    ACalls Try.prog w0 82 [.ref r 0 l.length l.length, .clo f [] caps] (upd H r (some (.arr 1 3 (l.map I) l.length))) K := by
  refine (?_ : ACalls Try.prog w0 82 [.ref r 0 l.length l.length, .clo f [] caps] (upd H r (some (.arr 1 3 (l.map I) l.length)))
     (fun v H' => ∃ (c : List Int) (m : Nat), c.length = l.length ∧ m ≤ l.length ∧ c.take m = l.filter (fun x => !p x) ∧ v = .ref r 0 m l.length ∧ H' = upd H r (some (.arr 1 3 (c.map I) l.length)))).drop ?_
  · have hix := indexRefC_at (w0 := w0) (H := upd H r (some (.arr 1 3 (l.map I) l.length))) (r := r) (l := l) (by omega) (by simp) (hp l)
    refine w_enter Try.func82 rfl Try.ntmps82 (ts := [4]) rfl (by simp) (by kernel_rfl) ?_
    rcases idxI_cases p l with ⟨hi, hno⟩ | ⟨i0, hi0, hi, hpi, hno⟩
    · rw [hi] at hix
      repeat' (first
        | (with_reducible refine awp_skip ?_)
        | (with_reducible refine then_any ?_)
        | (with_reducible refine then_ret ?_)
        | (with_reducible refine then_exit ?_)
        | (with_reducible refine inBlock_normal ?_)
        | (with_reducible refine inBlock_ret ?_)
        | (with_reducible refine inBlock_hit ?_)
        | (with_reducible refine inBlock_miss (by decide) ?_)
        | (with_reducible refine awp_ret ?_)
        | (with_reducible refine awp_exit ?_)
        | (with_reducible refine post_ret ?_)
        | (with_reducible refine post_normal ?_)
        | (with_reducible refine awp_block ?_)
        | (with_reducible refine awp_scope_ret ?_)
        | (with_reducible refine awp_label ?_)
        | (with_reducible refine v_reg [] (fun K hK => ?_))
        | (with_reducible refine v_reg1 [] (fun K hK => ?_))
        | (with_reducible refine v_draw mixed [] [] (by kernel_rfl) (fun K hK => ?_))
        | (with_reducible refine v_draw1 mixed [] [] (by kernel_rfl) (fun K hK => ?_))
        | (with_reducible refine ev_nil (hK _ _ ?_); clear hK K)
        | (with_reducible refine ed_nil (hK _ _ ?_); clear hK K)
        | ((first | with_reducible refine ev_cons (fun K' hK' => ?_) | with_reducible refine ed_cons (fun K' hK' => ?_) | (with_reducible refine ev_id ?_; refine ev_guard rfl (fun K' hK' => ?_)) | (with_reducible refine ed_id ?_; refine ed_guard rfl (fun K' hK' => ?_))); simp; repeat' (first | (with_reducible refine hK' _ _ ?_; clear hK' K') | ((with_reducible refine RetAt.use hix ?_; try simp); try simp) | (with_reducible refine And.intro ?_ ?_) | (with_reducible intro hg) | (clear hK' K'; omega)))
        | (with_reducible refine w_cond (fun A B hA hB => ?_); simp; repeat' (first | (with_reducible refine hA ?_; clear hA hB A B) | (with_reducible refine hB ?_; clear hA hB A B) | (with_reducible refine And.intro ?_ ?_) | (with_reducible intro hc)))
        | (with_reducible refine awp_seq ?_))
      refine ⟨l, l.length, rfl, by omega, ?_, by simp, rfl⟩
      rw [List.take_length, List.filter_eq_self.2]
      intro x hx; simp [hno x hx]
    · rw [hi] at hix
      repeat' (first
        | (with_reducible refine awp_skip ?_)
        | (with_reducible refine then_any ?_)
        | (with_reducible refine then_ret ?_)
        | (with_reducible refine then_exit ?_)
        | (with_reducible refine inBlock_normal ?_)
        | (with_reducible refine inBlock_ret ?_)
        | (with_reducible refine inBlock_hit ?_)
        | (with_reducible refine inBlock_miss (by decide) ?_)
        | (with_reducible refine awp_ret ?_)
        | (with_reducible refine awp_exit ?_)
        | (with_reducible refine post_ret ?_)
        | (with_reducible refine post_normal ?_)
        | (with_reducible refine awp_block ?_)
        | (with_reducible refine awp_scope_ret ?_)
        | (with_reducible refine awp_label ?_)
        | (with_reducible refine v_reg [] (fun K hK => ?_))
        | (with_reducible refine v_reg1 [] (fun K hK => ?_))
        | (with_reducible refine v_draw mixed [] [] (by kernel_rfl) (fun K hK => ?_))
        | (with_reducible refine v_draw1 mixed [] [] (by kernel_rfl) (fun K hK => ?_))
        | (with_reducible refine ev_nil (hK _ _ ?_); clear hK K)
        | (with_reducible refine ed_nil (hK _ _ ?_); clear hK K)
        | ((first | with_reducible refine ev_cons (fun K' hK' => ?_) | with_reducible refine ed_cons (fun K' hK' => ?_) | (with_reducible refine ev_id ?_; refine ev_guard rfl (fun K' hK' => ?_)) | (with_reducible refine ed_id ?_; refine ed_guard rfl (fun K' hK' => ?_))); simp; repeat' (first | (with_reducible refine hK' _ _ ?_; clear hK' K') | ((with_reducible refine RetAt.use hix ?_; try simp); try simp) | (with_reducible refine And.intro ?_ ?_) | (with_reducible intro hg) | (clear hK' K'; omega)))
        | (with_reducible refine w_cond (fun A B hA hB => ?_); simp; repeat' (first | (with_reducible refine hA ?_; clear hA hB A B) | (with_reducible refine hB ?_; clear hA hB A B) | (with_reducible refine And.intro ?_ ?_) | (with_reducible intro hc)))
        | (with_reducible refine awp_seq ?_))
      all_goals try omega
      refine awp_loop (fun env h => ∃ (i j : Nat) (c : List Int), i ≤ j ∧ i < j ∧ j ≤ l.length ∧ c.length = l.length ∧ c.take i = (l.take j).filter (fun x => !p x) ∧ c.drop j = l.drop j ∧ env 5 = I i ∧ env 6 = I j ∧ env 0 = .ref r 0 l.length l.length ∧ env 1 = .clo f [] caps ∧
          h = upd H r (some (.arr 1 3 (c.map I) l.length))) (fun env _ => l.length - natA (env 6)) ?_ ?_
      · refine ⟨i0, i0 + 1, l, by omega, by omega, by omega, rfl, ?_, rfl, by simp, by simp, by simp, by simp, rfl⟩
        rw [List.take_succ_eq_append_getElem hi0, List.filter_append, List.filter_eq_self.2 (fun x hx => by simp [hno x hx])]
        simp [hpi]
      rintro env h ⟨i, j, c, hij, hij', hj, hcl, hct, hcd, h5, h6, h0, h1, rfl⟩
      have hnat : natA (env 6) = j := by simp [h6]
      rw [hnat]; clear hnat
      by_cases hlt : j < l.length
      · have hcj : c[j] = l[j] := by
          have := congrArg (·[0]?) hcd
          simp only [List.getElem?_drop, Nat.add_zero] at this
          rw [List.getElem?_eq_getElem (by omega), List.getElem?_eq_getElem hlt] at this
          simpa using this
        have hcj' : ∀ h, c[j]'h = l[j] := fun _ => hcj
        have hjc : j < c.length := by omega
        have hic : i < c.length := by omega
        have hts : (l.take (j + 1)).filter (fun x => !p x) = (l.take j).filter (fun x => !p x) ++ if p l[j] then [] else [l[j]] := by
          rw [List.take_succ_eq_append_getElem hlt, List.filter_append, List.filter_cons]
          cases p l[j] <;> simp
        have hds : c.drop (j + 1) = l.drop (j + 1) := by
          have := congrArg (List.drop 1) hcd
          simpa [List.drop_drop] using this
        have hpj := hp c l[j] (List.getElem_mem _)
        cases hb : p l[j] with
        | true =>
          rw [hb, if_pos rfl, List.append_nil] at hts
          repeat' (first
            | (with_reducible refine awp_skip ?_)
            | (with_reducible refine then_any ?_)
            | (with_reducible refine then_ret ?_)
            | (with_reducible refine then_exit ?_)
            | (with_reducible refine inBlock_normal ?_)
            | (with_reducible refine inBlock_ret ?_)
            | (with_reducible refine inBlock_hit ?_)
            | (with_reducible refine inBlock_miss (by decide) ?_)
            | (with_reducible refine awp_ret ?_)
            | (with_reducible refine awp_exit ?_)
            | (with_reducible refine post_ret ?_)
            | (with_reducible refine post_normal ?_)
            | (with_reducible refine awp_block ?_)
            | (with_reducible refine awp_scope_ret ?_)
            | (with_reducible refine awp_label ?_)
            | (with_reducible refine v_reg [] (fun K hK => ?_))
            | (with_reducible refine v_reg1 [] (fun K hK => ?_))
            | (with_reducible refine v_draw mixed [] [] (by kernel_rfl) (fun K hK => ?_))
            | (with_reducible refine v_draw1 mixed [] [] (by kernel_rfl) (fun K hK => ?_))
            | (with_reducible refine ev_nil (hK _ _ ?_); clear hK K)
            | (with_reducible refine ed_nil (hK _ _ ?_); clear hK K)
            | ((first | with_reducible refine ev_cons (fun K' hK' => ?_) | with_reducible refine ed_cons (fun K' hK' => ?_) | (with_reducible refine ev_id ?_; refine ev_guard rfl (fun K' hK' => ?_)) | (with_reducible refine ed_id ?_; refine ed_guard rfl (fun K' hK' => ?_))); simp [h5, h6, h0, h1, hlt, hcl, hcj', hjc]; repeat' (first | (with_reducible refine hK' _ _ ?_; clear hK' K') | ((with_reducible refine RetAt.use hpj ?_; simp only [hb]); try simp [h5, h6, h0, h1, hlt, hcl, hcj', hjc]) | (with_reducible refine And.intro ?_ ?_) | (with_reducible intro hg) | (clear hK' K'; omega)))
            | (with_reducible refine w_cond (fun A B hA hB => ?_); simp [h5, h6, h0, h1, hlt, hcl, hcj', hjc]; repeat' (first | (with_reducible refine hA ?_; clear hA hB A B) | (with_reducible refine hB ?_; clear hA hB A B) | (with_reducible refine And.intro ?_ ?_) | (with_reducible intro hc)))
            | (with_reducible refine awp_seq ?_))
          exact ⟨⟨i, j + 1, c, by omega, by omega, by omega, hcl, by rw [hts]; exact hct, hds, by simp [h5], by simp, by simp [h0], by simp [h1], rfl⟩, by simp; omega⟩
        | false =>
          rw [hb, if_neg (by simp)] at hts
          repeat' (first
            | (with_reducible refine awp_skip ?_)
            | (with_reducible refine then_any ?_)
            | (with_reducible refine then_ret ?_)
            | (with_reducible refine then_exit ?_)
            | (with_reducible refine inBlock_normal ?_)
            | (with_reducible refine inBlock_ret ?_)
            | (with_reducible refine inBlock_hit ?_)
            | (with_reducible refine inBlock_miss (by decide) ?_)
            | (with_reducible refine awp_ret ?_)
            | (with_reducible refine awp_exit ?_)
            | (with_reducible refine post_ret ?_)
            | (with_reducible refine post_normal ?_)
            | (with_reducible refine awp_block ?_)
            | (with_reducible refine awp_scope_ret ?_)
            | (with_reducible refine awp_label ?_)
            | (with_reducible refine v_reg [] (fun K hK => ?_))
            | (with_reducible refine v_reg1 [] (fun K hK => ?_))
            | (with_reducible refine v_draw mixed [] [] (by kernel_rfl) (fun K hK => ?_))
            | (with_reducible refine v_draw1 mixed [] [] (by kernel_rfl) (fun K hK => ?_))
            | (with_reducible refine ev_nil (hK _ _ ?_); clear hK K)
            | (with_reducible refine ed_nil (hK _ _ ?_); clear hK K)
            | ((first | with_reducible refine ev_cons (fun K' hK' => ?_) | with_reducible refine ed_cons (fun K' hK' => ?_) | (with_reducible refine ev_id ?_; refine ev_guard rfl (fun K' hK' => ?_)) | (with_reducible refine ed_id ?_; refine ed_guard rfl (fun K' hK' => ?_))); simp [h5, h6, h0, h1, hlt, hcl, hcj', hjc, hic]; repeat' (first | (with_reducible refine hK' _ _ ?_; clear hK' K') | ((with_reducible refine RetAt.use hpj ?_; simp only [hb]); try simp [h5, h6, h0, h1, hlt, hcl, hcj', hjc, hic]) | (with_reducible refine And.intro ?_ ?_) | (with_reducible intro hg) | (clear hK' K'; omega)))
            | (with_reducible refine w_cond (fun A B hA hB => ?_); simp [h5, h6, h0, h1, hlt, hcl, hcj', hjc, hic]; repeat' (first | (with_reducible refine hA ?_; clear hA hB A B) | (with_reducible refine hB ?_; clear hA hB A B) | (with_reducible refine And.intro ?_ ?_) | (with_reducible intro hc)))
            | (with_reducible refine awp_seq ?_))
          refine ⟨⟨i + 1, j + 1, c.set i l[j], by omega, by omega, by omega, by simpa using hcl, ?_, ?_, by simp, by simp, by simp [h0], by simp [h1], by simp [List.map_set]⟩, by simp; omega⟩
          · rw [hts, ← hct, List.take_succ_eq_append_getElem (by simpa using hic), List.take_set_of_le (Nat.le_refl _)]
            simp
          · rw [List.drop_set_of_lt (by omega)]; exact hds
      · have : j = l.length := by omega
        subst this
        rw [List.take_length] at hct
        have hil : i ≤ l.length := by omega
        obtain ⟨c', e1, e2, e3⟩ := setL_ints (List.replicate (l.length - i) 0) c i
        rw [← zrep_ints] at e1
        repeat' (first
          | (with_reducible refine awp_skip ?_)
          | (with_reducible refine then_any ?_)
          | (with_reducible refine then_ret ?_)
          | (with_reducible refine then_exit ?_)
          | (with_reducible refine inBlock_normal ?_)
          | (with_reducible refine inBlock_ret ?_)
          | (with_reducible refine inBlock_hit ?_)
          | (with_reducible refine inBlock_miss (by decide) ?_)
          | (with_reducible refine awp_ret ?_)
          | (with_reducible refine awp_exit ?_)
          | (with_reducible refine post_ret ?_)
          | (with_reducible refine post_normal ?_)
          | (with_reducible refine awp_block ?_)
          | (with_reducible refine awp_scope_ret ?_)
          | (with_reducible refine awp_label ?_)
          | (with_reducible refine v_reg [] (fun K hK => ?_))
          | (with_reducible refine v_reg1 [] (fun K hK => ?_))
          | (with_reducible refine v_draw mixed [] [] (by kernel_rfl) (fun K hK => ?_))
          | (with_reducible refine v_draw1 mixed [] [] (by kernel_rfl) (fun K hK => ?_))
          | (with_reducible refine ev_nil (hK _ _ ?_); clear hK K)
          | (with_reducible refine ed_nil (hK _ _ ?_); clear hK K)
          | ((first | with_reducible refine ev_cons (fun K' hK' => ?_) | with_reducible refine ed_cons (fun K' hK' => ?_) | (with_reducible refine ev_id ?_; refine ev_guard rfl (fun K' hK' => ?_)) | (with_reducible refine ed_id ?_; refine ed_guard rfl (fun K' hK' => ?_))); simp [h5, h6, h0, h1, hcl, hil]; repeat' (first | (with_reducible refine hK' _ _ ?_; clear hK' K') | (with_reducible refine And.intro ?_ ?_) | (with_reducible intro hg) | (clear hK' K'; omega)))
          | (with_reducible refine w_cond (fun A B hA hB => ?_); simp [h5, h6, h0, h1, hcl, hil]; repeat' (first | (with_reducible refine hA ?_; clear hA hB A B) | (with_reducible refine hB ?_; clear hA hB A B) | (with_reducible refine And.intro ?_ ?_) | (with_reducible intro hc)))
          | (with_reducible refine awp_seq ?_))
        exact ⟨c', i, by omega, by omega, by rw [e3 i (Nat.le_refl _), hct], by simp, by rw [← e1]; simp⟩
  · rintro v H' ⟨c, m, h1, h2, h3, rfl, rfl⟩
    exact ⟨_, .refl _, k c m h1 h2 h3⟩
theorem has_is {l : List Int} {x : Int} (hl : l.length ≤ 1099511627776) (h : IsSet l) : Ret Try.prog w0 66 [ints l, I x] (B (decide (x ∈ l))) := by
  have e : risesB (-1) l = true := rises_iff.2 h
  simpa [e] using has_ret (w0 := w0) (x := x) hl
theorem strong1_at {ls : List (List Int)} {u v : Int} {H : Heap} {a b : Nat} (hu : 0 ≤ u ∧ u < ls.length) (hset : ∀ l ∈ ls, IsSet l ∧ l.length ≤ 4096) (ha : H a = some (.box [rows ls])) (hb : H b = some (.box [I v])) :
    RetAt Try.prog w0 83 [I u, .ptr a 0 0, .ptr b 0 0] (B (!decide (v ∈ out ls u))) H := by
  refine .of ?_
  have hun : u.toNat < ls.length := by omega
  have hg : ∀ h : u.toNat < ls.length, ls[u.toNat]'h = out ls u := fun h => by simp [out, h]
  have hs := hset (out ls u) (by rw [← hg hun]; exact List.getElem_mem _)
  have hh := has_is (w0 := w0) (l := out ls u) (x := v) (by omega) hs.1
  refine w_enter Try.func83 rfl Try.ntmps83 (ts := [4]) rfl (by simp) (by kernel_rfl) ?_
  repeat' (first
    | (with_reducible refine awp_skip ?_)
    | (with_reducible refine then_any ?_)
    | (with_reducible refine then_ret ?_)
    | (with_reducible refine then_exit ?_)
    | (with_reducible refine inBlock_normal ?_)
    | (with_reducible refine inBlock_ret ?_)
    | (with_reducible refine inBlock_hit ?_)
    | (with_reducible refine inBlock_miss (by decide) ?_)
    | (with_reducible refine awp_ret ?_)
    | (with_reducible refine awp_exit ?_)
    | (with_reducible refine post_ret ?_)
    | (with_reducible refine post_normal ?_)
    | (with_reducible refine awp_block ?_)
    | (with_reducible refine awp_scope_ret ?_)
    | (with_reducible refine awp_label ?_)
    | (with_reducible refine v_reg [] (fun K hK => ?_))
    | (with_reducible refine v_reg1 [] (fun K hK => ?_))
    | (with_reducible refine v_draw mixed [] [] (by kernel_rfl) (fun K hK => ?_))
    | (with_reducible refine v_draw1 mixed [] [] (by kernel_rfl) (fun K hK => ?_))
    | (with_reducible refine ev_nil (hK _ _ ?_); clear hK K)
    | (with_reducible refine ed_nil (hK _ _ ?_); clear hK K)
    | ((first | with_reducible refine ev_cons (fun K' hK' => ?_) | with_reducible refine ed_cons (fun K' hK' => ?_) | (with_reducible refine ev_id ?_; refine ev_guard rfl (fun K' hK' => ?_)) | (with_reducible refine ed_id ?_; refine ed_guard rfl (fun K' hK' => ?_))); simp [ha, hb, hu.1, hu.2, hun, hg, rows]; repeat' (first | (with_reducible refine hK' _ _ ?_; clear hK' K') | (with_reducible refine Ret.use hh ?_; try simp [ha, hb, hu.1, hu.2, hun, hg, rows]) | (with_reducible refine And.intro ?_ ?_) | (with_reducible intro hg) | (clear hK' K'; omega)))
    | (with_reducible refine w_cond (fun A B hA hB => ?_); simp [ha, hb, hu.1, hu.2, hun, hg, rows]; repeat' (first | (with_reducible refine hA ?_; clear hA hB A B) | (with_reducible refine hB ?_; clear hA hB A B) | (with_reducible refine And.intro ?_ ?_) | (with_reducible intro hc)))
    | (with_reducible refine awp_seq ?_))
  simp
end Go.Am
namespace Go.Am
open Go Go.Proofs
set_option linter.unusedVariables false
set_option linter.unusedSimpArgs false
variable {w0 : World}
attribute [local irreducible] AWP ACalls
attribute [local congr] acalls_congr
theorem strong_ret {ls : List (List Int)} {v : Int} (hv : 0 ≤ v ∧ v < ls.length) (hset : ∀ l ∈ ls, IsSet l ∧ l.length ≤ 4096) (hall : ∀ u ∈ out ls v, 0 ≤ u ∧ u < ls.length) (hne : out ls v ≠ []) (hl : ls.length ≤ 4096) :
    Ret Try.prog w0 63 [rows ls, I v] (ints ((out ls v).filter fun u => decide (v ∈ out ls u))) := by
  intro H
  have hvn : v.toNat < ls.length := by omega
  have hgo : ∀ h : v.toNat < ls.length, ls[v.toNat]'h = out ls v := fun h => by simp [out, h]
  have hs := hset (out ls v) (by rw [← hgo hvn]; exact List.getElem_mem _)
  refine w_enter Try.func63 rfl Try.ntmps63 (ts := [4]) rfl (by simp) (by kernel_rfl) ?_ |> ret_frz
  repeat' (first
    | (with_reducible refine awp_skip ?_)
    | (with_reducible refine then_any ?_)
    | (with_reducible refine then_ret ?_)
    | (with_reducible refine then_exit ?_)
    | (with_reducible refine inBlock_normal ?_)
    | (with_reducible refine inBlock_ret ?_)
    | (with_reducible refine inBlock_hit ?_)
    | (with_reducible refine inBlock_miss (by decide) ?_)
    | (with_reducible refine awp_ret ?_)
    | (with_reducible refine awp_exit ?_)
    | (with_reducible refine post_ret ?_)
    | (with_reducible refine post_normal ?_)
    | (with_reducible refine awp_block ?_)
    | (with_reducible refine awp_scope_ret ?_)
    | (with_reducible refine awp_label ?_)
    | ((fail_if_success (with_reducible refine at_reg 1 ?_)); with_reducible refine v_reg [] (fun K hK => ?_))
    | ((fail_if_success (with_reducible refine (?_ : AWP _ _ _ (Code.region 1 _ _) _ _ _))); with_reducible refine v_reg1 [] (fun K hK => ?_))
    | ((fail_if_success (with_reducible refine at_reg 1 ?_)); with_reducible refine v_draw mixed [] [] (by kernel_rfl) (fun K hK => ?_))
    | ((fail_if_success (with_reducible refine (?_ : AWP _ _ _ (Code.region 1 _ _) _ _ _))); with_reducible refine v_draw1 mixed [] [] (by kernel_rfl) (fun K hK => ?_))
    | (with_reducible refine ev_nil (hK _ _ ?_); clear hK K)
    | (with_reducible refine ed_nil (hK _ _ ?_); clear hK K)
    | ((first | with_reducible refine ev_cons (fun K' hK' => ?_) | with_reducible refine ed_cons (fun K' hK' => ?_) | (with_reducible refine ev_id ?_; refine ev_guard rfl (fun K' hK' => ?_)) | (with_reducible refine ed_id ?_; refine ed_guard rfl (fun K' hK' => ?_))); simp; repeat' (first | (with_reducible refine hK' _ _ ?_; clear hK' K') | (with_reducible refine And.intro ?_ ?_) | (with_reducible intro hg) | (clear hK' K'; omega)))
    | (with_reducible refine w_cond (fun A B hA hB => ?_); simp; repeat' (first | (with_reducible refine hA ?_; clear hA hB A B) | (with_reducible refine hB ?_; clear hA hB A B) | (with_reducible refine And.intro ?_ ?_) | (with_reducible intro hc)))
    | ((fail_if_success (with_reducible refine at_reg 1 ?_)); with_reducible refine awp_seq ?_))
  rename_i a ha b
  have hba : b ≠ a := by rintro rfl; simp at hg
  have hab : a ≠ b := Ne.symm hba
  have hb : H b = none := by rw [if_neg hba] at hg; exact hg
  clear hg
  have hdel : ∀ (r : Nat) (H' : Heap), H' = upd (upd H a (some (.box [rows ls]))) b (some (.box [I v])) → H' r = none → PredU w0 83 [.ptr a 0 0, .ptr b 0 0] (out ls v) (fun u => !decide (v ∈ out ls u)) H' r := by
    intro r H' e hr c x hx
    subst e
    have hrb : r ≠ b := by rintro rfl; simp at hr
    rw [upd_ne _ _ _ hrb] at hr
    have hra : r ≠ a := by rintro rfl; simp at hr
    exact strong1_at (hall x hx) hset (by rw [upd_ne _ _ _ (Ne.symm hra), upd_ne _ _ _ hab, upd_same]) (by rw [upd_ne _ _ _ (Ne.symm hrb), upd_same])
  obtain ⟨H', hH'⟩ : ∃ H', H' = upd (upd H a (some (.box [rows ls]))) b (some (.box [I v])) := ⟨_, rfl⟩
  have hsub : Sub H H' := by rw [hH']; exact ((Sub.refl H).upd ha _).upd hb _
  have h'a : H' a = some (.box [rows ls]) := by rw [hH', upd_ne _ _ _ hab, upd_same]
  have h'b : H' b = some (.box [I v]) := by rw [hH', upd_same]
  have hd := fun r hr => hdel r H' hH' hr
  rw [← hH']
  clear hdel hH'
  repeat' (first
    | (with_reducible refine awp_skip ?_)
    | (with_reducible refine then_any ?_)
    | (with_reducible refine then_ret ?_)
    | (with_reducible refine then_exit ?_)
    | (with_reducible refine inBlock_normal ?_)
    | (with_reducible refine inBlock_ret ?_)
    | (with_reducible refine inBlock_hit ?_)
    | (with_reducible refine inBlock_miss (by decide) ?_)
    | (with_reducible refine awp_ret ?_)
    | (with_reducible refine awp_exit ?_)
    | (with_reducible refine post_ret ?_)
    | (with_reducible refine post_normal ?_)
    | (with_reducible refine awp_block ?_)
    | (with_reducible refine awp_scope_ret ?_)
    | (with_reducible refine awp_label ?_)
    | (with_reducible refine v_reg [] (fun K hK => ?_))
    | (with_reducible refine v_reg1 [] (fun K hK => ?_))
    | (with_reducible refine v_draw mixed [] [] (by kernel_rfl) (fun K hK => ?_))
    | (with_reducible refine v_draw1 mixed [] [] (by kernel_rfl) (fun K hK => ?_))
    | (with_reducible refine ev_nil (hK _ _ ?_); clear hK K)
    | (with_reducible refine ed_nil (hK _ _ ?_); clear hK K)
    | ((first | with_reducible refine ev_cons (fun K' hK' => ?_) | with_reducible refine ed_cons (fun K' hK' => ?_) | (with_reducible refine ev_id ?_; refine ev_guard rfl (fun K' hK' => ?_)) | (with_reducible refine ed_id ?_; refine ed_guard rfl (fun K' hK' => ?_))); simp [h'a, h'b, hv.1, hv.2, hvn, hgo, rows]; repeat' (first | (with_reducible refine hK' _ _ ?_; clear hK' K') | ((with_reducible refine clone_use (l := out ls v) (by omega) (fun e => absurd e hne) (fun r hr => ?_)); try simp [h'a, h'b, hv.1, hv.2, hvn, hgo, rows]) | ((with_reducible refine deleteC_use (l := out ls v) (by omega) hr (hd r hr) (fun c m h1 h2 h3 => ?_)); try simp [h'a, h'b, hv.1, hv.2, hvn, hgo, rows]) | (with_reducible refine And.intro ?_ ?_) | (with_reducible intro hg) | (clear hK' K'; omega)))
    | (with_reducible refine w_cond (fun A B hA hB => ?_); simp [h'a, h'b, hv.1, hv.2, hvn, hgo, rows]; repeat' (first | (with_reducible refine hA ?_; clear hA hB A B) | (with_reducible refine hB ?_; clear hA hB A B) | (with_reducible refine And.intro ?_ ?_) | (with_reducible intro hc)))
    | (with_reducible refine awp_seq ?_))
  refine .inr ⟨r, 0, m, (out ls v).length, 1, 3, c.map I, by simp, by rw [upd_same], ?_, ?_⟩
  · simp only [Bool.not_not] at h3
    rw [← h3]
    simp [cut, ints, List.map_take]
    omega
  · rw [upd_upd]
    refine hsub.upd ?_ _
    cases e : H r with
    | none => rfl
    | some k => rw [hsub r k e] at hr; cases hr
def tAV (T : Nat) (l : List Int) : AV := if l = [] then .sc (.slice none 0 0) else .ref T 0 l.length l.length
theorem tAV_len (T : Nat) (l : List Int) : slLen (tAV T l) = some l.length := by
  unfold tAV; split
  · rename_i e; subst e; rfl
  · rfl
@[simp high] theorem tAV_lenK {P : Program} {t : TypeId} (T : Nat) (l : List Int) {K : AV → Prop} : lenK P t (tAV T l) K = ((slE P t).isSome = true ∧ K (I l.length)) := by
  unfold tAV; split
  · rename_i e; subst e; rfl
  · rfl
theorem tAV_ref (T : Nat) {l : List Int} (h : l ≠ []) : tAV T l = .ref T 0 l.length l.length := if_neg h
structure NetR (H : Heap) (F T n : Nat) (arcs : List (Int × Int)) (root : Int) (tight : List Int) (rAV cAV : AV) : Prop where
  hF : H F = some (.box [I n, pairs arcs, rAV, I root, tAV T tight, cAV])
  hT : tight ≠ [] → H T = some (.arr 1 3 (tight.map I) tight.length)
def gCell (l : List Int) (c : AV) : Prop := c = ints l ∨ (l = [] ∧ c = .sc (.slice none 0 0))
theorem gCell.wks {l : List Int} {c : AV} (h : gCell l c) : Wks c (ints l) := by
  rcases h with rfl | ⟨rfl, rfl⟩
  · exact .refl _
  · exact .nil
set_option maxHeartbeats 2000000 in
theorem graph_at {H : Heap} {F T n : Nat} {arcs : List (Int × Int)} {root : Int} {tight : List Int} {rAV cAV : AV} (N : NetA n arcs root) (hr : NetR H F T n arcs root tight rAV cAV) (ht : Plc arcs tight) (hl : tight.length ≤ 64) :
    RetAt Try.prog w0 61 [.ptr F 0 0] (rows (adjL arcs tight n)) H := by
  refine .of ?_
  have hn := N.nle
  have hm := N.mle
  have hF := hr.hF
  have hlen := tAV_len T tight
  refine w_enter Try.func61 rfl Try.ntmps61 (ts := [2]) rfl (by simp) (by kernel_rfl) ?_
  repeat' (first
    | (with_reducible refine awp_skip ?_)
    | (with_reducible refine then_any ?_)
    | (with_reducible refine then_ret ?_)
    | (with_reducible refine then_exit ?_)
    | (with_reducible refine inBlock_normal ?_)
    | (with_reducible refine inBlock_ret ?_)
    | (with_reducible refine inBlock_hit ?_)
    | (with_reducible refine inBlock_miss (by decide) ?_)
    | (with_reducible refine awp_ret ?_)
    | (with_reducible refine awp_exit ?_)
    | (with_reducible refine post_ret ?_)
    | (with_reducible refine post_normal ?_)
    | (with_reducible refine awp_block ?_)
    | (with_reducible refine awp_scope_ret ?_)
    | (with_reducible refine awp_label ?_)
    | ((fail_if_success (with_reducible refine at_reg 2 ?_)); with_reducible refine v_reg [] (fun K hK => ?_))
    | ((fail_if_success (with_reducible refine (?_ : AWP _ _ _ (Code.region 2 _ _) _ _ _))); with_reducible refine v_reg1 [] (fun K hK => ?_))
    | ((fail_if_success (with_reducible refine at_reg 2 ?_)); with_reducible refine v_draw mixed [] [] (by kernel_rfl) (fun K hK => ?_))
    | ((fail_if_success (with_reducible refine (?_ : AWP _ _ _ (Code.region 2 _ _) _ _ _))); with_reducible refine v_draw1 mixed [] [] (by kernel_rfl) (fun K hK => ?_))
    | (with_reducible refine ev_nil (hK _ _ ?_); clear hK K)
    | (with_reducible refine ed_nil (hK _ _ ?_); clear hK K)
    | ((first | with_reducible refine ev_cons (fun K' hK' => ?_) | with_reducible refine ed_cons (fun K' hK' => ?_) | (with_reducible refine ev_id ?_; refine ev_guard rfl (fun K' hK' => ?_)) | (with_reducible refine ed_id ?_; refine ed_guard rfl (fun K' hK' => ?_))); simp [hF]; repeat' (first | (with_reducible refine hK' _ _ ?_; clear hK' K') | (with_reducible refine And.intro ?_ ?_) | (with_reducible intro hg) | (clear hK' K'; omega)))
    | (with_reducible refine w_cond (fun A B hA hB => ?_); simp [hF]; repeat' (first | (with_reducible refine hA ?_; clear hA hB A B) | (with_reducible refine hB ?_; clear hA hB A B) | (with_reducible refine And.intro ?_ ?_) | (with_reducible intro hc)))
    | ((fail_if_success (with_reducible refine at_reg 2 ?_)); with_reducible refine awp_seq ?_))
  all_goals try omega
  rename_i O
  have hO : H O = none := hg
  clear hg
  have hFO : F ≠ O := fun e => by rw [e, hO] at hF; cases hF
  have hOF : O ≠ F := Ne.symm hFO
  repeat' (first
    | (with_reducible refine awp_skip ?_)
    | (with_reducible refine then_any ?_)
    | (with_reducible refine then_ret ?_)
    | (with_reducible refine then_exit ?_)
    | (with_reducible refine inBlock_normal ?_)
    | (with_reducible refine inBlock_ret ?_)
    | (with_reducible refine inBlock_hit ?_)
    | (with_reducible refine inBlock_miss (by decide) ?_)
    | (with_reducible refine awp_ret ?_)
    | (with_reducible refine awp_exit ?_)
    | (with_reducible refine post_ret ?_)
    | (with_reducible refine post_normal ?_)
    | (with_reducible refine awp_block ?_)
    | (with_reducible refine awp_scope_ret ?_)
    | (with_reducible refine awp_label ?_)
    | (with_reducible refine v_reg [] (fun K hK => ?_))
    | (with_reducible refine v_reg1 [] (fun K hK => ?_))
    | (with_reducible refine v_draw mixed [] [] (by kernel_rfl) (fun K hK => ?_))
    | (with_reducible refine v_draw1 mixed [] [] (by kernel_rfl) (fun K hK => ?_))
    | (with_reducible refine ev_nil (hK _ _ ?_); clear hK K)
    | (with_reducible refine ed_nil (hK _ _ ?_); clear hK K)
    | ((first | with_reducible refine ev_cons (fun K' hK' => ?_) | with_reducible refine ed_cons (fun K' hK' => ?_) | (with_reducible refine ev_id ?_; refine ev_guard rfl (fun K' hK' => ?_)) | (with_reducible refine ed_id ?_; refine ed_guard rfl (fun K' hK' => ?_))); simp [hF, hFO, -lenK, tAV_lenK, slE]; repeat' (first | (with_reducible refine hK' _ _ ?_; clear hK' K') | (with_reducible refine And.intro ?_ ?_) | (with_reducible intro hg) | (clear hK' K'; omega)))
    | (with_reducible refine w_cond (fun A B hA hB => ?_); simp [hF, hFO, -lenK, tAV_lenK, slE]; repeat' (first | (with_reducible refine hA ?_; clear hA hB A B) | (with_reducible refine hB ?_; clear hA hB A B) | (with_reducible refine And.intro ?_ ?_) | (with_reducible intro hc)))
    | (with_reducible refine awp_seq ?_))
  refine awp_loop (fun env h => ∃ (k : Nat) (cells : List AV), k ≤ tight.length ∧ cells.length = n ∧ (∀ u (hu : u < cells.length), gCell (headsL arcs (tight.take k) u) cells[u]) ∧ env 17 = I k ∧ env 16 = I tight.length ∧ env 15 = tAV T tight ∧ env 0 = .ptr F 0 0 ∧ env 3 = .ref O 0 n n ∧
      Sub (upd H O (some (.arr 1 27 cells n))) h) (fun env _ => tight.length - natA (env 17)) ?_ ?_
  · exact ⟨0, List.replicate n (.sc (.slice none 0 0)), by omega, by simp, fun u hu => by rw [List.getElem_replicate]; exact .inr ⟨rfl, rfl⟩, by simp, by simp, by simp, by simp, by simp, .refl _⟩
  rintro env h ⟨k, cells, hk, hcl, hc, h17, h16, h15, h0, h3, hsub⟩
  have hnat : natA (env 17) = k := by simp [h17]
  rw [hnat]; clear hnat
  refine AWP.sub hsub ?_
  clear hsub h
  by_cases hlt : k < tight.length
  · have hne : tight ≠ [] := by rintro rfl; simp at hlt
    have hT := hr.hT hne
    have hTO : T ≠ O := fun e => by rw [e, hO] at hT; cases hT
    rw [tAV_ref T hne] at h15
    obtain ⟨i0, i1⟩ := ht tight[k] (List.getElem_mem _)
    obtain ⟨⟨t0, tn⟩, ⟨q0, qn⟩⟩ := N.ends tight[k] i0 i1
    have hil : tight[k].toNat < arcs.length := by omega
    have hp := pairs_get hil
    rw [tlA_get hil, hdA_get hil, show ((tight[k].toNat : Nat) : Int) = tight[k] by omega] at hp
    generalize hi : tight[k] = i at *
    have hgi : ∀ h : k < tight.length, tight[k]'h = i := fun _ => hi
    repeat' (first
      | (with_reducible refine awp_skip ?_)
      | (with_reducible refine then_any ?_)
      | (with_reducible refine then_ret ?_)
      | (with_reducible refine then_exit ?_)
      | (with_reducible refine inBlock_normal ?_)
      | (with_reducible refine inBlock_ret ?_)
      | (with_reducible refine inBlock_hit ?_)
      | (with_reducible refine inBlock_miss (by decide) ?_)
      | (with_reducible refine awp_ret ?_)
      | (with_reducible refine awp_exit ?_)
      | (with_reducible refine post_ret ?_)
      | (with_reducible refine post_normal ?_)
      | (with_reducible refine awp_block ?_)
      | (with_reducible refine awp_scope_ret ?_)
      | (with_reducible refine awp_label ?_)
      | ((fail_if_success (with_reducible refine at_reg 6 ?_)); with_reducible refine v_reg [] (fun K hK => ?_))
      | ((fail_if_success (with_reducible refine (?_ : AWP _ _ _ (Code.region 6 _ _) _ _ _))); with_reducible refine v_reg1 [] (fun K hK => ?_))
      | ((fail_if_success (with_reducible refine at_reg 6 ?_)); with_reducible refine v_draw mixed [] [] (by kernel_rfl) (fun K hK => ?_))
      | ((fail_if_success (with_reducible refine (?_ : AWP _ _ _ (Code.region 6 _ _) _ _ _))); with_reducible refine v_draw1 mixed [] [] (by kernel_rfl) (fun K hK => ?_))
      | (with_reducible refine ev_nil (hK _ _ ?_); clear hK K)
      | (with_reducible refine ed_nil (hK _ _ ?_); clear hK K)
      | ((first | with_reducible refine ev_cons (fun K' hK' => ?_) | with_reducible refine ed_cons (fun K' hK' => ?_) | (with_reducible refine ev_id ?_; refine ev_guard rfl (fun K' hK' => ?_)) | (with_reducible refine ed_id ?_; refine ed_guard rfl (fun K' hK' => ?_))); simp [h17, h16, h15, h0, h3, hF, hFO, hT, hTO, hlt, hgi, i0, i1, hil, pairs, pairs_len, sum2, hp.1, hp.2.1, hp.2.2]; repeat' (first | (with_reducible refine hK' _ _ ?_; clear hK' K') | (with_reducible refine And.intro ?_ ?_) | (with_reducible intro hg) | (clear hK' K'; omega)))
      | (with_reducible refine w_cond (fun A B hA hB => ?_); simp [h17, h16, h15, h0, h3, hF, hFO, hT, hTO, hlt, hgi, i0, i1, hil, pairs, pairs_len, sum2, hp.1, hp.2.1, hp.2.2]; repeat' (first | (with_reducible refine hA ?_; clear hA hB A B) | (with_reducible refine hB ?_; clear hA hB A B) | (with_reducible refine And.intro ?_ ?_) | (with_reducible intro hc)))
      | ((fail_if_success (with_reducible refine at_reg 6 ?_)); with_reducible refine awp_seq ?_))
    rename_i q
    have hqO : q ≠ O := by rintro rfl; simp at hg
    have hOq : O ≠ q := Ne.symm hqO
    have hqn : upd H O (some (.arr 1 27 cells n)) q = none := by rw [upd_ne _ _ _ hqO]; rw [if_neg hqO] at hg; exact hg
    clear hg
    have htn : (tlA arcs i).toNat < cells.length := by omega
    have htn' : (tlA arcs i).toNat < n := by omega
    have hcell := hc (tlA arcs i).toNat htn
    rw [show (((tlA arcs i).toNat : Nat) : Int) = tlA arcs i by omega] at hcell
    have hhp := heads_pts N (some := tight.take k) (fun j hj => ht j (List.mem_of_mem_take hj)) (tlA arcs i)
    have hun0 : Ret Try.prog w0 71 [ints (headsL arcs (tight.take k) (tlA arcs i)), ints [hdA arcs i]] (ints (unionL (headsL arcs (tight.take k) (tlA arcs i)) [hdA arcs i])) := union_ret (by have := hhp.length; simp only [smLen]; omega) (by simp [smLen])
    have hone : IsSet [hdA arcs i] := .one (by omega)
    rw [union_R] at hun0
    have hfin : ∀ (cells' : List AV), cells' = cells.set (tlA arcs i).toNat (ints (unionR (headsL arcs (tight.take k) (tlA arcs i)) [hdA arcs i])) → cells'.length = n ∧ ∀ u (hu : u < cells'.length), gCell (headsL arcs (tight.take (k + 1)) u) cells'[u] := by
      rintro cells' rfl
      refine ⟨by simp [hcl], fun u hu => ?_⟩
      rw [heads_take hlt, hi, List.getElem_set]
      by_cases e : (tlA arcs i).toNat = u
      · rw [if_pos e, if_pos (by omega), show (u : Int) = tlA arcs i by omega]
        exact .inl rfl
      · rw [if_neg e, if_neg (by omega)]
        exact hc u _
    generalize hhd : unionR (headsL arcs (tight.take k) (tlA arcs i)) [hdA arcs i] = L1 at *
    rcases hcell with hc0 | ⟨hl0, hc0⟩
    · have hgc : ∀ h : (tlA arcs i).toNat < cells.length, cells[(tlA arcs i).toNat]'h = ints (headsL arcs (tight.take k) (tlA arcs i)) := fun _ => hc0
      simp only [ints, List.map_cons, List.map_nil, List.length_singleton] at hun0 hgc
      repeat' (first
        | (with_reducible refine awp_skip ?_)
        | (with_reducible refine then_any ?_)
        | (with_reducible refine then_ret ?_)
        | (with_reducible refine then_exit ?_)
        | (with_reducible refine inBlock_normal ?_)
        | (with_reducible refine inBlock_ret ?_)
        | (with_reducible refine inBlock_hit ?_)
        | (with_reducible refine inBlock_miss (by decide) ?_)
        | (with_reducible refine awp_ret ?_)
        | (with_reducible refine awp_exit ?_)
        | (with_reducible refine post_ret ?_)
        | (with_reducible refine post_normal ?_)
        | (with_reducible refine awp_block ?_)
        | (with_reducible refine awp_scope_ret ?_)
        | (with_reducible refine awp_label ?_)
        | (with_reducible refine v_reg [] (fun K hK => ?_))
        | (with_reducible refine v_reg1 [] (fun K hK => ?_))
        | (with_reducible refine v_draw mixed [] [29, 30] (by kernel_rfl) (fun K hK => ?_))
        | (with_reducible refine v_draw1 mixed [] [29, 30] (by kernel_rfl) (fun K hK => ?_))
        | (with_reducible refine ev_nil (hK _ _ ?_); clear hK K)
        | (with_reducible refine ed_nil (hK _ _ ?_); clear hK K)
        | ((first | with_reducible refine ev_cons (fun K' hK' => ?_) | with_reducible refine ed_cons (fun K' hK' => ?_) | (with_reducible refine ev_id ?_; refine ev_guard rfl (fun K' hK' => ?_)) | (with_reducible refine ed_id ?_; refine ed_guard rfl (fun K' hK' => ?_))); simp [h17, h16, h15, h0, h3, hqO, hOq, hcl, t0, tn, htn, htn', hgc, boxes, Blk.isArr, KeepsBox.refl]; repeat' (first | (with_reducible refine hK' _ _ ?_; clear hK' K') | (with_reducible refine Ret.use hun0 ?_; try simp [h17, h16, h15, h0, h3, hqO, hOq, hcl, t0, tn, htn, htn', hgc, boxes, Blk.isArr, KeepsBox.refl]) | (with_reducible refine And.intro ?_ ?_) | (with_reducible intro hg) | (clear hK' K'; omega)))
        | (with_reducible refine w_cond (fun A B hA hB => ?_); simp [h17, h16, h15, h0, h3, hqO, hOq, hcl, t0, tn, htn, htn', hgc, boxes, Blk.isArr, KeepsBox.refl]; repeat' (first | (with_reducible refine hA ?_; clear hA hB A B) | (with_reducible refine hB ?_; clear hA hB A B) | (with_reducible refine And.intro ?_ ?_) | (with_reducible intro hc)))
        | (with_reducible refine awp_seq ?_))
      obtain ⟨f1, f2⟩ := hfin _ rfl
      refine ⟨⟨k + 1, _, by omega, f1, f2, by simp, by simp [h16], by simp [h15, tAV_ref T hne], by simp [h0], by simp [h3], ?_⟩, by simp; omega⟩
      rw [upd_comm _ _ _ hOq, upd_upd, upd_comm _ _ _ hqO]
      exact sub_new (by rw [upd_ne _ _ _ hqO]; rw [upd_ne _ _ _ hqO] at hqn; exact hqn)
    · have hgc : ∀ h : (tlA arcs i).toNat < cells.length, cells[(tlA arcs i).toNat]'h = .sc (.slice none 0 0) := fun _ => hc0
      rw [hl0] at hun0
      simp only [ints, List.map_cons, List.map_nil, List.length_singleton, List.length_nil] at hun0
      repeat' (first
        | (with_reducible refine awp_skip ?_)
        | (with_reducible refine then_any ?_)
        | (with_reducible refine then_ret ?_)
        | (with_reducible refine then_exit ?_)
        | (with_reducible refine inBlock_normal ?_)
        | (with_reducible refine inBlock_ret ?_)
        | (with_reducible refine inBlock_hit ?_)
        | (with_reducible refine inBlock_miss (by decide) ?_)
        | (with_reducible refine awp_ret ?_)
        | (with_reducible refine awp_exit ?_)
        | (with_reducible refine post_ret ?_)
        | (with_reducible refine post_normal ?_)
        | (with_reducible refine awp_block ?_)
        | (with_reducible refine awp_scope_ret ?_)
        | (with_reducible refine awp_label ?_)
        | (with_reducible refine v_reg [] (fun K hK => ?_))
        | (with_reducible refine v_reg1 [] (fun K hK => ?_))
        | (with_reducible refine v_draw mixed [] [29, 30] (by kernel_rfl) (fun K hK => ?_))
        | (with_reducible refine v_draw1 mixed [] [29, 30] (by kernel_rfl) (fun K hK => ?_))
        | (with_reducible refine ev_nil (hK _ _ ?_); clear hK K)
        | (with_reducible refine ed_nil (hK _ _ ?_); clear hK K)
        | ((first | with_reducible refine ev_cons (fun K' hK' => ?_) | with_reducible refine ed_cons (fun K' hK' => ?_) | (with_reducible refine ev_id ?_; refine ev_guard rfl (fun K' hK' => ?_)) | (with_reducible refine ed_id ?_; refine ed_guard rfl (fun K' hK' => ?_))); simp [h17, h16, h15, h0, h3, hqO, hOq, hcl, t0, tn, htn, htn', hgc, boxes, Blk.isArr, KeepsBox.refl]; repeat' (first | (with_reducible refine hK' _ _ ?_; clear hK' K') | (with_reducible refine Ret.use hun0 ?_; try simp [h17, h16, h15, h0, h3, hqO, hOq, hcl, t0, tn, htn, htn', hgc, boxes, Blk.isArr, KeepsBox.refl]) | (with_reducible refine And.intro ?_ ?_) | (with_reducible intro hg) | (clear hK' K'; omega)))
        | (with_reducible refine w_cond (fun A B hA hB => ?_); simp [h17, h16, h15, h0, h3, hqO, hOq, hcl, t0, tn, htn, htn', hgc, boxes, Blk.isArr, KeepsBox.refl]; repeat' (first | (with_reducible refine hA ?_; clear hA hB A B) | (with_reducible refine hB ?_; clear hA hB A B) | (with_reducible refine And.intro ?_ ?_) | (with_reducible intro hc)))
        | (with_reducible refine awp_seq ?_))
      obtain ⟨f1, f2⟩ := hfin _ rfl
      refine ⟨⟨k + 1, _, by omega, f1, f2, by simp, by simp [h16], by simp [h15, tAV_ref T hne], by simp [h0], by simp [h3], ?_⟩, by simp; omega⟩
      rw [upd_comm _ _ _ hOq, upd_upd, upd_comm _ _ _ hqO]
      exact sub_new (by rw [upd_ne _ _ _ hqO]; rw [upd_ne _ _ _ hqO] at hqn; exact hqn)
  · have : k = tight.length := by omega
    subst this
    repeat' (first
      | (with_reducible refine awp_skip ?_)
      | (with_reducible refine then_any ?_)
      | (with_reducible refine then_ret ?_)
      | (with_reducible refine then_exit ?_)
      | (with_reducible refine inBlock_normal ?_)
      | (with_reducible refine inBlock_ret ?_)
      | (with_reducible refine inBlock_hit ?_)
      | (with_reducible refine inBlock_miss (by decide) ?_)
      | (with_reducible refine awp_ret ?_)
      | (with_reducible refine awp_exit ?_)
      | (with_reducible refine post_ret ?_)
      | (with_reducible refine post_normal ?_)
      | (with_reducible refine awp_block ?_)
      | (with_reducible refine awp_scope_ret ?_)
      | (with_reducible refine awp_label ?_)
      | ((fail_if_success (with_reducible refine at_reg 8 ?_)); with_reducible refine v_reg [] (fun K hK => ?_))
      | ((fail_if_success (with_reducible refine (?_ : AWP _ _ _ (Code.region 8 _ _) _ _ _))); with_reducible refine v_reg1 [] (fun K hK => ?_))
      | ((fail_if_success (with_reducible refine at_reg 8 ?_)); with_reducible refine v_draw mixed [] [] (by kernel_rfl) (fun K hK => ?_))
      | ((fail_if_success (with_reducible refine (?_ : AWP _ _ _ (Code.region 8 _ _) _ _ _))); with_reducible refine v_draw1 mixed [] [] (by kernel_rfl) (fun K hK => ?_))
      | (with_reducible refine ev_nil (hK _ _ ?_); clear hK K)
      | (with_reducible refine ed_nil (hK _ _ ?_); clear hK K)
      | ((first | with_reducible refine ev_cons (fun K' hK' => ?_) | with_reducible refine ed_cons (fun K' hK' => ?_) | (with_reducible refine ev_id ?_; refine ev_guard rfl (fun K' hK' => ?_)) | (with_reducible refine ed_id ?_; refine ed_guard rfl (fun K' hK' => ?_))); simp [h17, h16, h15, h0, h3]; repeat' (first | (with_reducible refine hK' _ _ ?_; clear hK' K') | (with_reducible refine And.intro ?_ ?_) | (with_reducible intro hg) | (clear hK' K'; omega)))
      | (with_reducible refine w_cond (fun A B hA hB => ?_); simp [h17, h16, h15, h0, h3]; repeat' (first | (with_reducible refine hA ?_; clear hA hB A B) | (with_reducible refine hB ?_; clear hA hB A B) | (with_reducible refine And.intro ?_ ?_) | (with_reducible intro hc)))
      | ((fail_if_success (with_reducible refine at_reg 8 ?_)); with_reducible refine awp_seq ?_))
    refine awp_freeze 3 (r := O) (off := 0) (len := n) (top := n) (by simp [h3]) (upd_same _ _ _) ?_
    rw [upd_upd, upd_none_self hO, cut_all (by omega)]
    refine awp_wks 3 (b := rows (adjL arcs tight n)) ?_ fun env' he he' => ?_
    · rw [upd_same, rows, adjL_length]
      refine Wks.sl (by simp [adjL_length, hcl]) fun u a b ha hb => ?_
      obtain ⟨hu, rfl⟩ := List.getElem?_eq_some_iff.1 ha
      rw [List.getElem?_map] at hb
      have hu' : u < n := by omega
      have : (adjL arcs tight n)[u]? = some (headsL arcs tight u) := by simp [adjL, List.getElem?_map, hu', upto_get]
      rw [this] at hb
      cases hb
      have := hc u hu
      rw [List.take_length] at this
      exact ⟨this.wks, rfl⟩
    repeat' (first
      | (with_reducible refine awp_skip ?_)
      | (with_reducible refine then_any ?_)
      | (with_reducible refine then_ret ?_)
      | (with_reducible refine then_exit ?_)
      | (with_reducible refine inBlock_normal ?_)
      | (with_reducible refine inBlock_ret ?_)
      | (with_reducible refine inBlock_hit ?_)
      | (with_reducible refine inBlock_miss (by decide) ?_)
      | (with_reducible refine awp_ret ?_)
      | (with_reducible refine awp_exit ?_)
      | (with_reducible refine post_ret ?_)
      | (with_reducible refine post_normal ?_)
      | (with_reducible refine awp_block ?_)
      | (with_reducible refine awp_scope_ret ?_)
      | (with_reducible refine awp_label ?_)
      | (with_reducible refine v_reg [] (fun K hK => ?_))
      | (with_reducible refine v_reg1 [] (fun K hK => ?_))
      | (with_reducible refine v_draw mixed [] [] (by kernel_rfl) (fun K hK => ?_))
      | (with_reducible refine v_draw1 mixed [] [] (by kernel_rfl) (fun K hK => ?_))
      | (with_reducible refine ev_nil (hK _ _ ?_); clear hK K)
      | (with_reducible refine ed_nil (hK _ _ ?_); clear hK K)
      | ((first | with_reducible refine ev_cons (fun K' hK' => ?_) | with_reducible refine ed_cons (fun K' hK' => ?_) | (with_reducible refine ev_id ?_; refine ev_guard rfl (fun K' hK' => ?_)) | (with_reducible refine ed_id ?_; refine ed_guard rfl (fun K' hK' => ?_))); simp [he]; repeat' (first | (with_reducible refine hK' _ _ ?_; clear hK' K') | (with_reducible refine And.intro ?_ ?_) | (with_reducible intro hg) | (clear hK' K'; omega)))
      | (with_reducible refine w_cond (fun A B hA hB => ?_); simp [he]; repeat' (first | (with_reducible refine hA ?_; clear hA hB A B) | (with_reducible refine hB ?_; clear hA hB A B) | (with_reducible refine And.intro ?_ ?_) | (with_reducible intro hc)))
      | (with_reducible refine awp_seq ?_))
    exact ⟨by simp, .refl _⟩
end Go.Am
namespace Go.Am
open Go Go.Proofs
set_option linter.unusedVariables false
set_option linter.unusedSimpArgs false
variable {w0 : World}
attribute [local irreducible] AWP ACalls
attribute [local congr] acalls_congr
theorem next1_at {H : Heap} {F T b q n : Nat} {arcs : List (Int × Int)} {root : Int} {tight s : List Int} {rAV cAV : AV} {i : Int} (hF : H F = some (.box [I n, pairs arcs, rAV, I root, tAV T tight, cAV]))
    (hb : H b = some (.box [.ptr F 0 0])) (hq : H q = some (.box [ints s])) (hi : 0 ≤ i ∧ i < arcs.length) (hs : IsSet s) (hl : s.length ≤ 4096) (hm : arcs.length ≤ 4096) :
    RetAt Try.prog w0 65 [I i, .ptr q 0 0, .ptr b 0 0] (B (entS arcs s i)) H := by
  refine .of ?_
  have hil : i.toNat < arcs.length := by omega
  have hp := pairs_at hil
  rw [tlA_get hil, hdA_get hil, show ((i.toNat : Nat) : Int) = i by omega] at hp
  have h1 := has_is (w0 := w0) (l := s) (x := hdA arcs i) (by omega) hs
  have h2 := has_is (w0 := w0) (l := s) (x := tlA arcs i) (by omega) hs
  refine w_enter Try.func65 rfl Try.ntmps65 (ts := [4]) rfl (by simp) (by kernel_rfl) ?_
  by_cases e1 : hdA arcs i ∈ s
  · simp only [e1, decide_true] at h1
    repeat' (first
      | (with_reducible refine awp_skip ?_)
      | (with_reducible refine then_any ?_)
      | (with_reducible refine then_ret ?_)
      | (with_reducible refine then_exit ?_)
      | (with_reducible refine inBlock_normal ?_)
      | (with_reducible refine inBlock_ret ?_)
      | (with_reducible refine inBlock_hit ?_)
      | (with_reducible refine inBlock_miss (by decide) ?_)
      | (with_reducible refine awp_ret ?_)
      | (with_reducible refine awp_exit ?_)
      | (with_reducible refine post_ret ?_)
      | (with_reducible refine post_normal ?_)
      | (with_reducible refine awp_block ?_)
      | (with_reducible refine awp_scope_ret ?_)
      | (with_reducible refine awp_label ?_)
      | (with_reducible refine v_reg [] (fun K hK => ?_))
      | (with_reducible refine v_reg1 [] (fun K hK => ?_))
      | (with_reducible refine v_draw mixed [] [5, 6, 7, 8, 9, 11, 12, 13] (by kernel_rfl) (fun K hK => ?_))
      | (with_reducible refine v_draw1 mixed [] [5, 6, 7, 8, 9, 11, 12, 13] (by kernel_rfl) (fun K hK => ?_))
      | (with_reducible refine ev_nil (hK _ _ ?_); clear hK K)
      | (with_reducible refine ed_nil (hK _ _ ?_); clear hK K)
      | ((first | with_reducible refine ev_cons (fun K' hK' => ?_) | with_reducible refine ed_cons (fun K' hK' => ?_) | (with_reducible refine ev_id ?_; refine ev_guard rfl (fun K' hK' => ?_)) | (with_reducible refine ed_id ?_; refine ed_guard rfl (fun K' hK' => ?_))); simp [hF, hb, hq, hi.1, hil, pairs, pairs_len, sum2, hp.1, hp.2.1, hp.2.2, boxes, Blk.isArr, KeepsBox.refl]; repeat' (first | (with_reducible refine hK' _ _ ?_; clear hK' K') | (with_reducible refine Ret.use h1 ?_; try simp [hF, hb, hq, hi.1, hil, pairs, pairs_len, sum2, hp.1, hp.2.1, hp.2.2, boxes, Blk.isArr, KeepsBox.refl]) | (with_reducible refine Ret.use h2 ?_; try simp [hF, hb, hq, hi.1, hil, pairs, pairs_len, sum2, hp.1, hp.2.1, hp.2.2, boxes, Blk.isArr, KeepsBox.refl]) | (with_reducible refine And.intro ?_ ?_) | (with_reducible intro hg) | (clear hK' K'; omega)))
      | (with_reducible refine w_cond (fun A B hA hB => ?_); simp [hF, hb, hq, hi.1, hil, pairs, pairs_len, sum2, hp.1, hp.2.1, hp.2.2, boxes, Blk.isArr, KeepsBox.refl]; repeat' (first | (with_reducible refine hA ?_; clear hA hB A B) | (with_reducible refine hB ?_; clear hA hB A B) | (with_reducible refine And.intro ?_ ?_) | (with_reducible intro hc)))
      | (with_reducible refine awp_seq ?_))
    all_goals simp [entS, e1]
  · simp only [e1, decide_false] at h1
    repeat' (first
      | (with_reducible refine awp_skip ?_)
      | (with_reducible refine then_any ?_)
      | (with_reducible refine then_ret ?_)
      | (with_reducible refine then_exit ?_)
      | (with_reducible refine inBlock_normal ?_)
      | (with_reducible refine inBlock_ret ?_)
      | (with_reducible refine inBlock_hit ?_)
      | (with_reducible refine inBlock_miss (by decide) ?_)
      | (with_reducible refine awp_ret ?_)
      | (with_reducible refine awp_exit ?_)
      | (with_reducible refine post_ret ?_)
      | (with_reducible refine post_normal ?_)
      | (with_reducible refine awp_block ?_)
      | (with_reducible refine awp_scope_ret ?_)
      | (with_reducible refine awp_label ?_)
      | (with_reducible refine v_reg [] (fun K hK => ?_))
      | (with_reducible refine v_reg1 [] (fun K hK => ?_))
      | (with_reducible refine v_draw mixed [] [5, 6, 7, 8, 9, 11, 12, 13] (by kernel_rfl) (fun K hK => ?_))
      | (with_reducible refine v_draw1 mixed [] [5, 6, 7, 8, 9, 11, 12, 13] (by kernel_rfl) (fun K hK => ?_))
      | (with_reducible refine ev_nil (hK _ _ ?_); clear hK K)
      | (with_reducible refine ed_nil (hK _ _ ?_); clear hK K)
      | ((first | with_reducible refine ev_cons (fun K' hK' => ?_) | with_reducible refine ed_cons (fun K' hK' => ?_) | (with_reducible refine ev_id ?_; refine ev_guard rfl (fun K' hK' => ?_)) | (with_reducible refine ed_id ?_; refine ed_guard rfl (fun K' hK' => ?_))); simp [hF, hb, hq, hi.1, hil, pairs, pairs_len, sum2, hp.1, hp.2.1, hp.2.2, boxes, Blk.isArr, KeepsBox.refl]; repeat' (first | (with_reducible refine hK' _ _ ?_; clear hK' K') | (with_reducible refine Ret.use h1 ?_; try simp [hF, hb, hq, hi.1, hil, pairs, pairs_len, sum2, hp.1, hp.2.1, hp.2.2, boxes, Blk.isArr, KeepsBox.refl]) | (with_reducible refine Ret.use h2 ?_; try simp [hF, hb, hq, hi.1, hil, pairs, pairs_len, sum2, hp.1, hp.2.1, hp.2.2, boxes, Blk.isArr, KeepsBox.refl]) | (with_reducible refine And.intro ?_ ?_) | (with_reducible intro hg) | (clear hK' K'; omega)))
      | (with_reducible refine w_cond (fun A B hA hB => ?_); simp [hF, hb, hq, hi.1, hil, pairs, pairs_len, sum2, hp.1, hp.2.1, hp.2.2, boxes, Blk.isArr, KeepsBox.refl]; repeat' (first | (with_reducible refine hA ?_; clear hA hB A B) | (with_reducible refine hB ?_; clear hA hB A B) | (with_reducible refine And.intro ?_ ?_) | (with_reducible intro hc)))
      | (with_reducible refine awp_seq ?_))
    all_goals simp [entS, e1]
theorem containsU_at {l : List Int} {f : FuncId} {caps : List AV} {p : Int → Bool} {H : Heap} {r : Nat} (hl : okLen l) (hr : l ≠ [] → H r = some (.arr 1 3 (l.map I) l.length)) (hp : PredI w0 f caps l p H) :
    RetAt Try.prog w0 64 [if l = [] then .sl [] 0 else .ref r 0 l.length l.length, .clo f [] caps] (B (l.any p)) H := by
  refine .of ?_
  have hi := idxI_any p l
  by_cases e : l = []
  · rw [if_pos e]
    subst e
    have hx : RetAt Try.prog w0 84 [.sl [] 0, .clo f [] caps] (I (idxI p [])) H := indexInts_at (l := []) (by simp) hp
    refine w_enter Try.func64 rfl Try.ntmps64 (ts := [4]) rfl (by simp) (by kernel_rfl) ?_
    repeat' (first
      | (with_reducible refine awp_skip ?_)
      | (with_reducible refine then_any ?_)
      | (with_reducible refine then_ret ?_)
      | (with_reducible refine then_exit ?_)
      | (with_reducible refine inBlock_normal ?_)
      | (with_reducible refine inBlock_ret ?_)
      | (with_reducible refine inBlock_hit ?_)
      | (with_reducible refine inBlock_miss (by decide) ?_)
      | (with_reducible refine awp_ret ?_)
      | (with_reducible refine awp_exit ?_)
      | (with_reducible refine post_ret ?_)
      | (with_reducible refine post_normal ?_)
      | (with_reducible refine awp_block ?_)
      | (with_reducible refine awp_scope_ret ?_)
      | (with_reducible refine awp_label ?_)
      | (with_reducible refine v_reg [] (fun K hK => ?_))
      | (with_reducible refine v_reg1 [] (fun K hK => ?_))
      | (with_reducible refine v_draw mixed [] [] (by kernel_rfl) (fun K hK => ?_))
      | (with_reducible refine v_draw1 mixed [] [] (by kernel_rfl) (fun K hK => ?_))
      | (with_reducible refine ev_nil (hK _ _ ?_); clear hK K)
      | (with_reducible refine ed_nil (hK _ _ ?_); clear hK K)
      | ((first | with_reducible refine ev_cons (fun K' hK' => ?_) | with_reducible refine ed_cons (fun K' hK' => ?_) | (with_reducible refine ev_id ?_; refine ev_guard rfl (fun K' hK' => ?_)) | (with_reducible refine ed_id ?_; refine ed_guard rfl (fun K' hK' => ?_))); simp; repeat' (first | (with_reducible refine hK' _ _ ?_; clear hK' K') | ((with_reducible refine RetAt.use hx ?_; try simp); try simp) | (with_reducible refine And.intro ?_ ?_) | (with_reducible intro hg) | (clear hK' K'; omega)))
      | (with_reducible refine w_cond (fun A B hA hB => ?_); simp; repeat' (first | (with_reducible refine hA ?_; clear hA hB A B) | (with_reducible refine hB ?_; clear hA hB A B) | (with_reducible refine And.intro ?_ ?_) | (with_reducible intro hc)))
      | (with_reducible refine awp_seq ?_))
    simp [hi]
  · rw [if_neg e]
    refine w_enter Try.func64 rfl Try.ntmps64 (ts := [4]) rfl (by simp) (by kernel_rfl) ?_
    repeat' (first
      | (with_reducible refine awp_skip ?_)
      | (with_reducible refine then_any ?_)
      | (with_reducible refine then_ret ?_)
      | (with_reducible refine then_exit ?_)
      | (with_reducible refine inBlock_normal ?_)
      | (with_reducible refine inBlock_ret ?_)
      | (with_reducible refine inBlock_hit ?_)
      | (with_reducible refine inBlock_miss (by decide) ?_)
      | (with_reducible refine awp_ret ?_)
      | (with_reducible refine awp_exit ?_)
      | (with_reducible refine post_ret ?_)
      | (with_reducible refine post_normal ?_)
      | (with_reducible refine awp_block ?_)
      | (with_reducible refine awp_scope_ret ?_)
      | (with_reducible refine awp_label ?_)
      | (with_reducible refine v_reg [] (fun K hK => ?_))
      | (with_reducible refine v_reg1 [] (fun K hK => ?_))
      | (with_reducible refine v_draw mixed [] [] (by kernel_rfl) (fun K hK => ?_))
      | (with_reducible refine v_draw1 mixed [] [] (by kernel_rfl) (fun K hK => ?_))
      | (with_reducible refine ev_nil (hK _ _ ?_); clear hK K)
      | (with_reducible refine ed_nil (hK _ _ ?_); clear hK K)
      | ((first | with_reducible refine ev_cons (fun K' hK' => ?_) | with_reducible refine ed_cons (fun K' hK' => ?_) | (with_reducible refine ev_id ?_; refine ev_guard rfl (fun K' hK' => ?_)) | (with_reducible refine ed_id ?_; refine ed_guard rfl (fun K' hK' => ?_))); simp; repeat' (first | (with_reducible refine hK' _ _ ?_; clear hK' K') | ((with_reducible refine RetAt.use (indexRefC_at hl (hr e) hp) ?_; try simp); try simp) | (with_reducible refine And.intro ?_ ?_) | (with_reducible intro hg) | (clear hK' K'; omega)))
      | (with_reducible refine w_cond (fun A B hA hB => ?_); simp; repeat' (first | (with_reducible refine hA ?_; clear hA hB A B) | (with_reducible refine hB ?_; clear hA hB A B) | (with_reducible refine And.intro ?_ ?_) | (with_reducible intro hc)))
      | (with_reducible refine awp_seq ?_))
    simp [hi]
theorem out_come {arcs : List (Int × Int)} {tight : List Int} {n : Nat} {v : Int} (hv : 0 ≤ v ∧ v < n) : out ((upto n).map (comeL arcs tight n)) v = comeL arcs tight n v := by
  have hu : (upto n)[v.toNat]? = some v := by
    rw [List.getElem?_eq_getElem (by simp; omega), upto_get]; congr 1; omega
  simp [out, List.getD_eq_getElem?_getD, List.getElem?_map, hu]
theorem find_upto {n k : Nat} {p : Int → Bool} (hk : k < n) (h : ∀ v : Nat, v < k → p v = false) (hp : p k = true) : (upto n).find? p = some (k : Int) := by
  rw [List.find?_eq_some_iff_getElem]
  refine ⟨hp, k, by simp; omega, by rw [upto_get], fun j hj => ?_⟩
  rw [upto_get, h j hj]; rfl
theorem find_upto_none {n : Nat} {p : Int → Bool} (h : ∀ v : Nat, v < n → p v = false) : (upto n).find? p = none := by
  rw [List.find?_eq_none]
  intro x hx
  obtain ⟨a, b⟩ := mem_upto.1 hx
  have := h x.toNat (by omega)
  rw [show ((x.toNat : Nat) : Int) = x by omega] at this
  simp [this]
def nextAns : Option (List Int) → AV
  | none => .tup [.sl [] 0, B false]
  | some s => .tup [ints s, B true]
set_option maxHeartbeats 4000000 in
theorem next_at {H : Heap} {F T n : Nat} {arcs : List (Int × Int)} {root : Int} {tight : List Int} {rAV cAV : AV} (N : NetA n arcs root) (hr : NetR H F T n arcs root tight rAV cAV) (ht : Plc arcs tight) (hl : tight.length ≤ 64) :
    RetAt Try.prog w0 51 [.ptr F 0 0] (nextAns (nxtL arcs tight n root)) H := by
  refine .of ?_
  have hn := N.nle
  have hm := N.mle
  have hrt := N.root
  have hF := hr.hF
  have hadj := adjL_length arcs tight n
  refine w_enter Try.func51 rfl Try.ntmps51 (ts := [2, 3]) rfl (by simp) (by kernel_rfl) ?_
  repeat' (first
    | (with_reducible refine awp_skip ?_)
    | (with_reducible refine then_any ?_)
    | (with_reducible refine then_ret ?_)
    | (with_reducible refine then_exit ?_)
    | (with_reducible refine inBlock_normal ?_)
    | (with_reducible refine inBlock_ret ?_)
    | (with_reducible refine inBlock_hit ?_)
    | (with_reducible refine inBlock_miss (by decide) ?_)
    | (with_reducible refine awp_ret ?_)
    | (with_reducible refine awp_exit ?_)
    | (with_reducible refine post_ret ?_)
    | (with_reducible refine post_normal ?_)
    | (with_reducible refine awp_block ?_)
    | (with_reducible refine awp_scope_ret ?_)
    | (with_reducible refine awp_label ?_)
    | ((fail_if_success (with_reducible refine at_reg 1 ?_)); with_reducible refine v_reg [] (fun K hK => ?_))
    | ((fail_if_success (with_reducible refine (?_ : AWP _ _ _ (Code.region 1 _ _) _ _ _))); with_reducible refine v_reg1 [] (fun K hK => ?_))
    | ((fail_if_success (with_reducible refine at_reg 1 ?_)); with_reducible refine v_draw mixed [] [] (by kernel_rfl) (fun K hK => ?_))
    | ((fail_if_success (with_reducible refine (?_ : AWP _ _ _ (Code.region 1 _ _) _ _ _))); with_reducible refine v_draw1 mixed [] [] (by kernel_rfl) (fun K hK => ?_))
    | (with_reducible refine ev_nil (hK _ _ ?_); clear hK K)
    | (with_reducible refine ed_nil (hK _ _ ?_); clear hK K)
    | ((first | with_reducible refine ev_cons (fun K' hK' => ?_) | with_reducible refine ed_cons (fun K' hK' => ?_) | (with_reducible refine ev_id ?_; refine ev_guard rfl (fun K' hK' => ?_)) | (with_reducible refine ed_id ?_; refine ed_guard rfl (fun K' hK' => ?_))); simp; repeat' (first | (with_reducible refine hK' _ _ ?_; clear hK' K') | (with_reducible refine And.intro ?_ ?_) | (with_reducible intro hg) | (clear hK' K'; omega)))
    | (with_reducible refine w_cond (fun A B hA hB => ?_); simp; repeat' (first | (with_reducible refine hA ?_; clear hA hB A B) | (with_reducible refine hB ?_; clear hA hB A B) | (with_reducible refine And.intro ?_ ?_) | (with_reducible intro hc)))
    | ((fail_if_success (with_reducible refine at_reg 1 ?_)); with_reducible refine awp_seq ?_))
  rename_i b
  have hb : H b = none := hg
  clear hg
  have hFb : F ≠ b := fun e => by rw [e, hb] at hF; cases hF
  have hbF : b ≠ F := Ne.symm hFb
  have hr1 : NetR (upd H b (some (.box [.ptr F 0 0]))) F T n arcs root tight rAV cAV := ⟨by rw [upd_ne _ _ _ hFb]; exact hF, fun h => by
    have := hr.hT h
    rw [upd_ne _ _ _ (fun e => by rw [e, hb] at this; cases this)]; exact this⟩
  repeat' (first
    | (with_reducible refine awp_skip ?_)
    | (with_reducible refine then_any ?_)
    | (with_reducible refine then_ret ?_)
    | (with_reducible refine then_exit ?_)
    | (with_reducible refine inBlock_normal ?_)
    | (with_reducible refine inBlock_ret ?_)
    | (with_reducible refine inBlock_hit ?_)
    | (with_reducible refine inBlock_miss (by decide) ?_)
    | (with_reducible refine awp_ret ?_)
    | (with_reducible refine awp_exit ?_)
    | (with_reducible refine post_ret ?_)
    | (with_reducible refine post_normal ?_)
    | (with_reducible refine awp_block ?_)
    | (with_reducible refine awp_scope_ret ?_)
    | (with_reducible refine awp_label ?_)
    | ((fail_if_success (with_reducible refine at_reg 3 ?_)); with_reducible refine v_reg [] (fun K hK => ?_))
    | ((fail_if_success (with_reducible refine (?_ : AWP _ _ _ (Code.region 3 _ _) _ _ _))); with_reducible refine v_reg1 [] (fun K hK => ?_))
    | ((fail_if_success (with_reducible refine at_reg 3 ?_)); with_reducible refine v_draw mixed [] [] (by kernel_rfl) (fun K hK => ?_))
    | ((fail_if_success (with_reducible refine (?_ : AWP _ _ _ (Code.region 3 _ _) _ _ _))); with_reducible refine v_draw1 mixed [] [] (by kernel_rfl) (fun K hK => ?_))
    | (with_reducible refine ev_nil (hK _ _ ?_); clear hK K)
    | (with_reducible refine ed_nil (hK _ _ ?_); clear hK K)
    | ((first | with_reducible refine ev_cons (fun K' hK' => ?_) | with_reducible refine ed_cons (fun K' hK' => ?_) | (with_reducible refine ev_id ?_; refine ev_guard rfl (fun K' hK' => ?_)) | (with_reducible refine ed_id ?_; refine ed_guard rfl (fun K' hK' => ?_))); simp [hF, hFb, hbF]; repeat' (first | (with_reducible refine hK' _ _ ?_; clear hK' K') | ((with_reducible refine RetAt.use (graph_at N hr1 ht hl) ?_); try simp [hF, hFb, hbF]) | (with_reducible refine And.intro ?_ ?_) | (with_reducible intro hg) | (clear hK' K'; omega)))
    | (with_reducible refine w_cond (fun A B hA hB => ?_); simp [hF, hFb, hbF]; repeat' (first | (with_reducible refine hA ?_; clear hA hB A B) | (with_reducible refine hB ?_; clear hA hB A B) | (with_reducible refine And.intro ?_ ?_) | (with_reducible intro hc)))
    | ((fail_if_success (with_reducible refine at_reg 3 ?_)); with_reducible refine awp_seq ?_))
  all_goals try omega
  rename_i O
  have hOb : O ≠ b := by rintro rfl; simp at hg
  have hbO : b ≠ O := Ne.symm hOb
  have hO : H O = none := by rw [if_neg hOb] at hg; exact hg
  clear hg
  have hFO : F ≠ O := fun e => by rw [e, hO] at hF; cases hF
  have hOF : O ≠ F := Ne.symm hFO
  repeat' (first
    | (with_reducible refine awp_skip ?_)
    | (with_reducible refine then_any ?_)
    | (with_reducible refine then_ret ?_)
    | (with_reducible refine then_exit ?_)
    | (with_reducible refine inBlock_normal ?_)
    | (with_reducible refine inBlock_ret ?_)
    | (with_reducible refine inBlock_hit ?_)
    | (with_reducible refine inBlock_miss (by decide) ?_)
    | (with_reducible refine awp_ret ?_)
    | (with_reducible refine awp_exit ?_)
    | (with_reducible refine post_ret ?_)
    | (with_reducible refine post_normal ?_)
    | (with_reducible refine awp_block ?_)
    | (with_reducible refine awp_scope_ret ?_)
    | (with_reducible refine awp_label ?_)
    | (with_reducible refine v_reg [] (fun K hK => ?_))
    | (with_reducible refine v_reg1 [] (fun K hK => ?_))
    | (with_reducible refine v_draw mixed [] [] (by kernel_rfl) (fun K hK => ?_))
    | (with_reducible refine v_draw1 mixed [] [] (by kernel_rfl) (fun K hK => ?_))
    | (with_reducible refine ev_nil (hK _ _ ?_); clear hK K)
    | (with_reducible refine ed_nil (hK _ _ ?_); clear hK K)
    | ((first | with_reducible refine ev_cons (fun K' hK' => ?_) | with_reducible refine ed_cons (fun K' hK' => ?_) | (with_reducible refine ev_id ?_; refine ev_guard rfl (fun K' hK' => ?_)) | (with_reducible refine ed_id ?_; refine ed_guard rfl (fun K' hK' => ?_))); simp [hF, hFb, hbF, hFO, hOF, hbO, hOb]; repeat' (first | (with_reducible refine hK' _ _ ?_; clear hK' K') | (with_reducible refine And.intro ?_ ?_) | (with_reducible intro hg) | (clear hK' K'; omega)))
    | (with_reducible refine w_cond (fun A B hA hB => ?_); simp [hF, hFb, hbF, hFO, hOF, hbO, hOb]; repeat' (first | (with_reducible refine hA ?_; clear hA hB A B) | (with_reducible refine hB ?_; clear hA hB A B) | (with_reducible refine And.intro ?_ ?_) | (with_reducible intro hc)))
    | (with_reducible refine awp_seq ?_))
  have hO1 : (upd H b (some (.box [.ptr F 0 0]))) O = none := by rw [upd_ne _ _ _ hOb]; exact hO
  refine awp_loop (fun env h => ∃ (k : Nat) (cells : List AV), k ≤ n ∧ cells.length = n ∧ (∀ u (hu : u < cells.length), u < k → cells[u] = ints (comeL arcs tight n u)) ∧ env 21 = I k ∧ env 20 = I n ∧ env 1 = .ptr b 0 0 ∧ env 4 = rows (adjL arcs tight n) ∧ env 5 = .ref O 0 n n ∧
      h = upd (upd H b (some (.box [.ptr F 0 0]))) O (some (.arr 1 27 cells n))) (fun env _ => n - natA (env 21)) ?_ ?_
  · exact ⟨0, _, by omega, by simp, fun u hu h => by omega, by simp, by simp, by simp, by simp, by simp, rfl⟩
  rintro env h ⟨k, cells, hk, hcl, hc, h21, h20, h1, h4, h5, rfl⟩
  have hnat : natA (env 21) = k := by simp [h21]
  rw [hnat]; clear hnat
  by_cases hlt : k < n
  · have hG := adj_gr N ht
    have hp : Pts (adjL arcs tight n).length [(k : Int)] := ⟨.one (by omega), by rw [adjL_length]; simpa using hlt⟩
    have hfr : fromL (adjL arcs tight n) [(k : Int)] = comeL arcs tight n k := by
      rw [fromL, gr_iff.2 hG, pts_iff.2 hp, comeL, hadj]; rfl
    have c1 := from_ret (w0 := w0) (adj := adjL arcs tight n) (l := [(k : Int)]) (by simp only [okLen]; omega) (fun p hp => by
      obtain ⟨x, _, rfl⟩ := List.mem_map.1 hp
      have := (heads_pts N ht x).length
      simp only [okLen]; omega) (by simp)
    rw [hfr, ints_one] at c1
    repeat' (first
      | (with_reducible refine awp_skip ?_)
      | (with_reducible refine then_any ?_)
      | (with_reducible refine then_ret ?_)
      | (with_reducible refine then_exit ?_)
      | (with_reducible refine inBlock_normal ?_)
      | (with_reducible refine inBlock_ret ?_)
      | (with_reducible refine inBlock_hit ?_)
      | (with_reducible refine inBlock_miss (by decide) ?_)
      | (with_reducible refine awp_ret ?_)
      | (with_reducible refine awp_exit ?_)
      | (with_reducible refine post_ret ?_)
      | (with_reducible refine post_normal ?_)
      | (with_reducible refine awp_block ?_)
      | (with_reducible refine awp_scope_ret ?_)
      | (with_reducible refine awp_label ?_)
      | (with_reducible refine v_reg [] (fun K hK => ?_))
      | (with_reducible refine v_reg1 [] (fun K hK => ?_))
      | (with_reducible refine v_draw mixed [] [] (by kernel_rfl) (fun K hK => ?_))
      | (with_reducible refine v_draw1 mixed [] [] (by kernel_rfl) (fun K hK => ?_))
      | (with_reducible refine ev_nil (hK _ _ ?_); clear hK K)
      | (with_reducible refine ed_nil (hK _ _ ?_); clear hK K)
      | ((first | with_reducible refine ev_cons (fun K' hK' => ?_) | with_reducible refine ed_cons (fun K' hK' => ?_) | (with_reducible refine ev_id ?_; refine ev_guard rfl (fun K' hK' => ?_)) | (with_reducible refine ed_id ?_; refine ed_guard rfl (fun K' hK' => ?_))); simp [h21, h20, h1, h4, h5, hlt, hcl]; repeat' (first | (with_reducible refine hK' _ _ ?_; clear hK' K') | (with_reducible refine Ret.use c1 ?_; try simp [h21, h20, h1, h4, h5, hlt, hcl]) | (with_reducible refine And.intro ?_ ?_) | (with_reducible intro hg) | (clear hK' K'; omega)))
      | (with_reducible refine w_cond (fun A B hA hB => ?_); simp [h21, h20, h1, h4, h5, hlt, hcl]; repeat' (first | (with_reducible refine hA ?_; clear hA hB A B) | (with_reducible refine hB ?_; clear hA hB A B) | (with_reducible refine And.intro ?_ ?_) | (with_reducible intro hc)))
      | (with_reducible refine awp_seq ?_))
    refine ⟨⟨k + 1, _, by omega, by simpa using hcl, fun u hu hlt' => ?_, by simp, by simp [h20], by simp [h1], by simp [h4], by simp [h5], rfl⟩, by simp; omega⟩
    rw [List.getElem_set]
    by_cases e : k = u
    · rw [if_pos e, e]
    · rw [if_neg e]; exact hc u _ (by omega)
  · have : n = k := by omega
    subst this
    repeat' (first
      | (with_reducible refine awp_skip ?_)
      | (with_reducible refine then_any ?_)
      | (with_reducible refine then_ret ?_)
      | (with_reducible refine then_exit ?_)
      | (with_reducible refine inBlock_normal ?_)
      | (with_reducible refine inBlock_ret ?_)
      | (with_reducible refine inBlock_hit ?_)
      | (with_reducible refine inBlock_miss (by decide) ?_)
      | (with_reducible refine awp_ret ?_)
      | (with_reducible refine awp_exit ?_)
      | (with_reducible refine post_ret ?_)
      | (with_reducible refine post_normal ?_)
      | (with_reducible refine awp_block ?_)
      | (with_reducible refine awp_scope_ret ?_)
      | (with_reducible refine awp_label ?_)
      | ((fail_if_success (with_reducible refine at_reg 8 ?_)); with_reducible refine v_reg [] (fun K hK => ?_))
      | ((fail_if_success (with_reducible refine (?_ : AWP _ _ _ (Code.region 8 _ _) _ _ _))); with_reducible refine v_reg1 [] (fun K hK => ?_))
      | ((fail_if_success (with_reducible refine at_reg 8 ?_)); with_reducible refine v_draw mixed [] [] (by kernel_rfl) (fun K hK => ?_))
      | ((fail_if_success (with_reducible refine (?_ : AWP _ _ _ (Code.region 8 _ _) _ _ _))); with_reducible refine v_draw1 mixed [] [] (by kernel_rfl) (fun K hK => ?_))
      | (with_reducible refine ev_nil (hK _ _ ?_); clear hK K)
      | (with_reducible refine ed_nil (hK _ _ ?_); clear hK K)
      | ((first | with_reducible refine ev_cons (fun K' hK' => ?_) | with_reducible refine ed_cons (fun K' hK' => ?_) | (with_reducible refine ev_id ?_; refine ev_guard rfl (fun K' hK' => ?_)) | (with_reducible refine ed_id ?_; refine ed_guard rfl (fun K' hK' => ?_))); simp [h21, h20]; repeat' (first | (with_reducible refine hK' _ _ ?_; clear hK' K') | (with_reducible refine And.intro ?_ ?_) | (with_reducible intro hg) | (clear hK' K'; omega)))
      | (with_reducible refine w_cond (fun A B hA hB => ?_); simp [h21, h20]; repeat' (first | (with_reducible refine hA ?_; clear hA hB A B) | (with_reducible refine hB ?_; clear hA hB A B) | (with_reducible refine And.intro ?_ ?_) | (with_reducible intro hc)))
      | ((fail_if_success (with_reducible refine at_reg 8 ?_)); with_reducible refine awp_seq ?_))
    have hcells : cells = ((upto n).map fun v => ints (comeL arcs tight n v)) := by
      refine List.ext_getElem (by simp [hcl]) fun u h1 h2 => ?_
      rw [hc u h1 (by omega), List.getElem_map, upto_get]
    subst hcells
    refine awp_freeze 5 (r := O) (off := 0) (len := n) (top := n) (by simp [h5]) (upd_same _ _ _) ?_
    have hcut : cut 1 ((upto n).map fun x => ints (comeL arcs tight n x)) 0 n = rows ((upto n).map (comeL arcs tight n)) := by
      have := cut_map (fun x => ints (comeL arcs tight n x)) (upto n)
      rw [upto_length] at this
      rw [this, rows]
      simp
    rw [hcut, upd_upd, upd_none_self hO1]
    have hlsl : ((upto n).map (comeL arcs tight n)).length = n := by simp
    have hout := fun v (hv : 0 ≤ v ∧ v < (n : Int)) => out_come (arcs := arcs) (tight := tight) (n := n) hv
    have hset : ∀ l ∈ (upto n).map (comeL arcs tight n), IsSet l ∧ l.length ≤ 4096 := by
      intro l hl
      obtain ⟨x, hx, rfl⟩ := List.mem_map.1 hl
      have := come_pts N ht (mem_upto.1 hx)
      exact ⟨this.set, by have := this.length; omega⟩
    have hgo : ∀ (v : Int) (hv : 0 ≤ v ∧ v < (n : Int)) h, ((upto n).map (comeL arcs tight n))[v.toNat]'h = comeL arcs tight n v := by
      intro v hv h
      rw [← hout v hv]
      simp [out, List.getD_eq_getElem?_getD, List.getElem?_eq_getElem h]
    have hgr := hgo root hrt
    generalize hls : (upto n).map (comeL arcs tight n) = ls at *
    have hrn : root.toNat < ls.length := by omega
    have hrn' : root.toNat < n := by omega
    clear h21 h20 h4 hc
    by_cases hall : (comeL arcs tight n root).length = n
    · have hnx : nxtL arcs tight n root = none := by rw [nxtL, if_pos hall]
      rw [hnx]
      repeat' (first
        | (with_reducible refine awp_skip ?_)
        | (with_reducible refine then_any ?_)
        | (with_reducible refine then_ret ?_)
        | (with_reducible refine then_exit ?_)
        | (with_reducible refine inBlock_normal ?_)
        | (with_reducible refine inBlock_ret ?_)
        | (with_reducible refine inBlock_hit ?_)
        | (with_reducible refine inBlock_miss (by decide) ?_)
        | (with_reducible refine awp_ret ?_)
        | (with_reducible refine awp_exit ?_)
        | (with_reducible refine post_ret ?_)
        | (with_reducible refine post_normal ?_)
        | (with_reducible refine awp_block ?_)
        | (with_reducible refine awp_scope_ret ?_)
        | (with_reducible refine awp_label ?_)
        | (with_reducible refine v_reg [] (fun K hK => ?_))
        | (with_reducible refine v_reg1 [] (fun K hK => ?_))
        | (with_reducible refine v_draw mixed [] [] (by kernel_rfl) (fun K hK => ?_))
        | (with_reducible refine v_draw1 mixed [] [] (by kernel_rfl) (fun K hK => ?_))
        | (with_reducible refine ev_nil (hK _ _ ?_); clear hK K)
        | (with_reducible refine ed_nil (hK _ _ ?_); clear hK K)
        | ((first | with_reducible refine ev_cons (fun K' hK' => ?_) | with_reducible refine ed_cons (fun K' hK' => ?_) | (with_reducible refine ev_id ?_; refine ev_guard rfl (fun K' hK' => ?_)) | (with_reducible refine ed_id ?_; refine ed_guard rfl (fun K' hK' => ?_))); simp [h1, h5, hF, hFb, hbF, hrt.1, hrt.2, hrn, hrn', hgr, hlsl, hall, rows, ints]; repeat' (first | (with_reducible refine hK' _ _ ?_; clear hK' K') | (with_reducible refine And.intro ?_ ?_) | (with_reducible intro hg) | (clear hK' K'; omega)))
        | (with_reducible refine w_cond (fun A B hA hB => ?_); simp [h1, h5, hF, hFb, hbF, hrt.1, hrt.2, hrn, hrn', hgr, hlsl, hall, rows, ints]; repeat' (first | (with_reducible refine hA ?_; clear hA hB A B) | (with_reducible refine hB ?_; clear hA hB A B) | (with_reducible refine And.intro ?_ ?_) | (with_reducible intro hc)))
        | (with_reducible refine awp_seq ?_))
      exact ⟨by simp [nextAns], sub_new hb⟩
    · have hall' : ¬ ((comeL arcs tight n root).length : Int) = n := by omega
      repeat' (first
        | (with_reducible refine awp_skip ?_)
        | (with_reducible refine then_any ?_)
        | (with_reducible refine then_ret ?_)
        | (with_reducible refine then_exit ?_)
        | (with_reducible refine inBlock_normal ?_)
        | (with_reducible refine inBlock_ret ?_)
        | (with_reducible refine inBlock_hit ?_)
        | (with_reducible refine inBlock_miss (by decide) ?_)
        | (with_reducible refine awp_ret ?_)
        | (with_reducible refine awp_exit ?_)
        | (with_reducible refine post_ret ?_)
        | (with_reducible refine post_normal ?_)
        | (with_reducible refine awp_block ?_)
        | (with_reducible refine awp_scope_ret ?_)
        | (with_reducible refine awp_label ?_)
        | (with_reducible refine v_reg [] (fun K hK => ?_))
        | (with_reducible refine v_reg1 [] (fun K hK => ?_))
        | (with_reducible refine v_draw mixed [] [] (by kernel_rfl) (fun K hK => ?_))
        | (with_reducible refine v_draw1 mixed [] [] (by kernel_rfl) (fun K hK => ?_))
        | (with_reducible refine ev_nil (hK _ _ ?_); clear hK K)
        | (with_reducible refine ed_nil (hK _ _ ?_); clear hK K)
        | ((first | with_reducible refine ev_cons (fun K' hK' => ?_) | with_reducible refine ed_cons (fun K' hK' => ?_) | (with_reducible refine ev_id ?_; refine ev_guard rfl (fun K' hK' => ?_)) | (with_reducible refine ed_id ?_; refine ed_guard rfl (fun K' hK' => ?_))); simp [h1, h5, hF, hFb, hbF, hrt.1, hrt.2, hrn, hrn', hgr, hlsl, hall, hall', rows, ints]; repeat' (first | (with_reducible refine hK' _ _ ?_; clear hK' K') | (with_reducible refine And.intro ?_ ?_) | (with_reducible intro hg) | (clear hK' K'; omega)))
        | (with_reducible refine w_cond (fun A B hA hB => ?_); simp [h1, h5, hF, hFb, hbF, hrt.1, hrt.2, hrn, hrn', hgr, hlsl, hall, hall', rows, ints]; repeat' (first | (with_reducible refine hA ?_; clear hA hB A B) | (with_reducible refine hB ?_; clear hA hB A B) | (with_reducible refine And.intro ?_ ?_) | (with_reducible intro hc)))
        | (with_reducible refine awp_seq ?_))
      clear hcut hgr hrn hrn' hout
      have hstr : ∀ v : Int, 0 ≤ v ∧ v < n → Ret Try.prog w0 63 [rows ls, I v] (ints (strongL arcs tight n v)) := by
        intro v hv
        have ho := fun u (hu : 0 ≤ u ∧ u < (n : Int)) => (by rw [← hls]; exact out_come hu : out ls u = comeL arcs tight n u)
        have hcp := come_pts N ht hv
        have := strong_ret (w0 := w0) (ls := ls) (v := v) (by omega) hset (by rw [ho v hv, hlsl]; exact hcp.lt) (by rw [ho v hv]; intro e; have := come_src N ht hv; rw [e] at this; cases this) (by omega)
        have e : ((out ls v).filter fun u => decide (v ∈ out ls u)) = strongL arcs tight n v := by
          rw [ho v hv, strongL]
          refine List.filter_congr fun u hu => ?_
          rw [ho u (hcp.lt u hu)]
        rwa [e] at this
      have hnx : nxtL arcs tight n root = ((upto n).find? fun v => !enteredB arcs tight (strongL arcs tight n v) && !decide (root ∈ strongL arcs tight n v)).map (strongL arcs tight n) := by rw [nxtL, if_neg hall]
      refine awp_loop (fun env h => ∃ k : Nat, k ≤ n ∧ (∀ v : Nat, v < k → (!enteredB arcs tight (strongL arcs tight n v) && !decide (root ∈ strongL arcs tight n v)) = false) ∧ env 49 = I k ∧ env 48 = I n ∧ env 1 = .ptr b 0 0 ∧ env 5 = rows ls ∧ Sub (upd H b (some (.box [.ptr F 0 0]))) h) (fun env _ => n - natA (env 49)) ?_ ?_
      · exact ⟨0, by omega, fun v hv => by omega, by simp, by simp, by simp [h1], by simp [rows, hlsl], .refl _⟩
      clear h1 h5
      rintro env h ⟨k, hk, hno, h49, h48, h1, h5, hsub⟩
      have hnat : natA (env 49) = k := by simp [h49]
      rw [hnat]; clear hnat
      refine AWP.sub hsub ?_
      clear hsub h
      by_cases hlt : k < n
      · have hsk := hstr k (by omega)
        have hsp := strong_pts N ht (v := (k : Int)) (by omega)
        have hfd := find_upto (p := fun v => !enteredB arcs tight (strongL arcs tight n v) && !decide (root ∈ strongL arcs tight n v)) hlt hno
        have hno1 : (!enteredB arcs tight (strongL arcs tight n k) && !decide (root ∈ strongL arcs tight n k)) = false → ∀ v : Nat, v < k + 1 → (!enteredB arcs tight (strongL arcs tight n v) && !decide (root ∈ strongL arcs tight n v)) = false := by
          intro h v hv
          by_cases e : v = k
          · rw [e]; exact h
          · exact hno v (by omega)
        have hen : enteredB arcs tight (strongL arcs tight n k) = tight.any (entS arcs (strongL arcs tight n k)) := rfl
        have hhr := has_is (w0 := w0) (l := strongL arcs tight n k) (x := root) (by have := hsp.length; omega) hsp.set
        have hslen : (strongL arcs tight n k).length ≤ 4096 := by have := hsp.length; omega
        have hsset := hsp.set
        generalize hs : strongL arcs tight n k = s at *
        repeat' (first
          | (with_reducible refine awp_skip ?_)
          | (with_reducible refine then_any ?_)
          | (with_reducible refine then_ret ?_)
          | (with_reducible refine then_exit ?_)
          | (with_reducible refine inBlock_normal ?_)
          | (with_reducible refine inBlock_ret ?_)
          | (with_reducible refine inBlock_hit ?_)
          | (with_reducible refine inBlock_miss (by decide) ?_)
          | (with_reducible refine awp_ret ?_)
          | (with_reducible refine awp_exit ?_)
          | (with_reducible refine post_ret ?_)
          | (with_reducible refine post_normal ?_)
          | (with_reducible refine awp_block ?_)
          | (with_reducible refine awp_scope_ret ?_)
          | (with_reducible refine awp_label ?_)
          | ((fail_if_success (with_reducible refine at_reg 14 ?_)); with_reducible refine v_reg [] (fun K hK => ?_))
          | ((fail_if_success (with_reducible refine (?_ : AWP _ _ _ (Code.region 14 _ _) _ _ _))); with_reducible refine v_reg1 [] (fun K hK => ?_))
          | ((fail_if_success (with_reducible refine at_reg 14 ?_)); with_reducible refine v_draw mixed [] [] (by kernel_rfl) (fun K hK => ?_))
          | ((fail_if_success (with_reducible refine (?_ : AWP _ _ _ (Code.region 14 _ _) _ _ _))); with_reducible refine v_draw1 mixed [] [] (by kernel_rfl) (fun K hK => ?_))
          | (with_reducible refine ev_nil (hK _ _ ?_); clear hK K)
          | (with_reducible refine ed_nil (hK _ _ ?_); clear hK K)
          | ((first | with_reducible refine ev_cons (fun K' hK' => ?_) | with_reducible refine ed_cons (fun K' hK' => ?_) | (with_reducible refine ev_id ?_; refine ev_guard rfl (fun K' hK' => ?_)) | (with_reducible refine ed_id ?_; refine ed_guard rfl (fun K' hK' => ?_))); simp [h49, h48, h1, h5, hlt]; repeat' (first | (with_reducible refine hK' _ _ ?_; clear hK' K') | (with_reducible refine Ret.use hsk ?_; try simp [h49, h48, h1, h5, hlt]) | (with_reducible refine And.intro ?_ ?_) | (with_reducible intro hg) | (clear hK' K'; omega)))
          | (with_reducible refine w_cond (fun A B hA hB => ?_); simp [h49, h48, h1, h5, hlt]; repeat' (first | (with_reducible refine hA ?_; clear hA hB A B) | (with_reducible refine hB ?_; clear hA hB A B) | (with_reducible refine And.intro ?_ ?_) | (with_reducible intro hc)))
          | ((fail_if_success (with_reducible refine at_reg 14 ?_)); with_reducible refine awp_seq ?_))
        rename_i q
        have hqb : q ≠ b := by rintro rfl; simp at hg
        have hbq : b ≠ q := Ne.symm hqb
        have hq : H q = none := by rw [if_neg hqb] at hg; exact hg
        clear hg
        have hFq : F ≠ q := fun e => by rw [e, hq] at hF; cases hF
        have hsubq : Sub (upd H b (some (.box [.ptr F 0 0]))) (upd (upd H b (some (.box [.ptr F 0 0]))) q (some (.box [ints s]))) := sub_new (by rw [upd_ne _ _ _ hqb]; exact hq)
        have hcf := containsU_at (w0 := w0) (l := tight) (f := 65) (caps := [.ptr q 0 0, .ptr b 0 0]) (p := entS arcs s) (H := upd (upd H b (some (.box [.ptr F 0 0]))) q (some (.box [ints s]))) (r := T) (by simp only [okLen]; omega)
          (fun h => by
            have := hr.hT h
            rw [upd_ne _ _ _ (fun e => by rw [e, hq] at this; cases this), upd_ne _ _ _ (fun e => by rw [e, hb] at this; cases this)]; exact this)
          (fun i hi => next1_at (by rw [upd_ne _ _ _ hFq, upd_ne _ _ _ hFb]; exact hF) (by rw [upd_ne _ _ _ hbq, upd_same]) (by rw [upd_same]) (ht i hi) hsset hslen (by omega))
        rw [← hen] at hcf
        by_cases ht0 : tight = []
        all_goals
          first | rw [if_pos ht0] at hcf | rw [if_neg ht0] at hcf
          have hF' := hF
          rw [tAV] at hF'
          first | rw [if_pos ht0] at hF' | rw [if_neg ht0] at hF'
          simp only [ints] at hcf
          cases hE : enteredB arcs tight s
          all_goals
            rw [hE] at hcf hfd hno1
            by_cases hR : root ∈ s
            all_goals
              simp only [hR, decide_true, decide_false] at hhr
              repeat' (first
                | (with_reducible refine awp_skip ?_)
                | (with_reducible refine then_any ?_)
                | (with_reducible refine then_ret ?_)
                | (with_reducible refine then_exit ?_)
                | (with_reducible refine inBlock_normal ?_)
                | (with_reducible refine inBlock_ret ?_)
                | (with_reducible refine inBlock_hit ?_)
                | (with_reducible refine inBlock_miss (by decide) ?_)
                | (with_reducible refine awp_ret ?_)
                | (with_reducible refine awp_exit ?_)
                | (with_reducible refine post_ret ?_)
                | (with_reducible refine post_normal ?_)
                | (with_reducible refine awp_block ?_)
                | (with_reducible refine awp_scope_ret ?_)
                | (with_reducible refine awp_label ?_)
                | (with_reducible refine v_reg [] (fun K hK => ?_))
                | (with_reducible refine v_reg1 [] (fun K hK => ?_))
                | (with_reducible refine v_draw mixed [] [64, 65, 66, 67, 68] (by kernel_rfl) (fun K hK => ?_))
                | (with_reducible refine v_draw1 mixed [] [64, 65, 66, 67, 68] (by kernel_rfl) (fun K hK => ?_))
                | (with_reducible refine ev_nil (hK _ _ ?_); clear hK K)
                | (with_reducible refine ed_nil (hK _ _ ?_); clear hK K)
                | ((first | with_reducible refine ev_cons (fun K' hK' => ?_) | with_reducible refine ed_cons (fun K' hK' => ?_) | (with_reducible refine ev_id ?_; refine ev_guard rfl (fun K' hK' => ?_)) | (with_reducible refine ed_id ?_; refine ed_guard rfl (fun K' hK' => ?_))); simp [h49, h48, h1, h5, hF', hFb, hbF, hFq, hbq, hqb, hR, ints, boxes, Blk.isArr, KeepsBox.refl]; repeat' (first | (with_reducible refine hK' _ _ ?_; clear hK' K') | ((with_reducible refine RetAt.use hcf ?_); try simp [h49, h48, h1, h5, hF', hFb, hbF, hFq, hbq, hqb, hR, ints, boxes, Blk.isArr, KeepsBox.refl]) | (with_reducible refine Ret.use hhr ?_; try simp [h49, h48, h1, h5, hF', hFb, hbF, hFq, hbq, hqb, hR, ints, boxes, Blk.isArr, KeepsBox.refl]) | (with_reducible refine And.intro ?_ ?_) | (with_reducible intro hg) | (clear hK' K'; omega)))
                | (with_reducible refine w_cond (fun A B hA hB => ?_); simp [h49, h48, h1, h5, hF', hFb, hbF, hFq, hbq, hqb, hR, ints, boxes, Blk.isArr, KeepsBox.refl]; repeat' (first | (with_reducible refine hA ?_; clear hA hB A B) | (with_reducible refine hB ?_; clear hA hB A B) | (with_reducible refine And.intro ?_ ?_) | (with_reducible intro hc)))
                | (with_reducible refine awp_seq ?_))
              first
                | exact ⟨⟨k + 1, by omega, hno1 (by simp [hR]), by simp, by simp [h48], by simp [h1], by simp [h5], hsubq⟩, by simp; omega⟩
                | (rw [hnx, hfd (by simp [hR]), Option.map_some, hs]; exact ⟨by simp [nextAns, ints], (sub_new hb).trans hsubq⟩)
      · have : n = k := by omega
        subst this
        have hfd := find_upto_none (p := fun v => !enteredB arcs tight (strongL arcs tight n v) && !decide (root ∈ strongL arcs tight n v)) hno
        rw [hfd] at hnx
        rw [hnx]
        repeat' (first
          | (with_reducible refine awp_skip ?_)
          | (with_reducible refine then_any ?_)
          | (with_reducible refine then_ret ?_)
          | (with_reducible refine then_exit ?_)
          | (with_reducible refine inBlock_normal ?_)
          | (with_reducible refine inBlock_ret ?_)
          | (with_reducible refine inBlock_hit ?_)
          | (with_reducible refine inBlock_miss (by decide) ?_)
          | (with_reducible refine awp_ret ?_)
          | (with_reducible refine awp_exit ?_)
          | (with_reducible refine post_ret ?_)
          | (with_reducible refine post_normal ?_)
          | (with_reducible refine awp_block ?_)
          | (with_reducible refine awp_scope_ret ?_)
          | (with_reducible refine awp_label ?_)
          | (with_reducible refine v_reg [] (fun K hK => ?_))
          | (with_reducible refine v_reg1 [] (fun K hK => ?_))
          | (with_reducible refine v_draw mixed [] [] (by kernel_rfl) (fun K hK => ?_))
          | (with_reducible refine v_draw1 mixed [] [] (by kernel_rfl) (fun K hK => ?_))
          | (with_reducible refine ev_nil (hK _ _ ?_); clear hK K)
          | (with_reducible refine ed_nil (hK _ _ ?_); clear hK K)
          | ((first | with_reducible refine ev_cons (fun K' hK' => ?_) | with_reducible refine ed_cons (fun K' hK' => ?_) | (with_reducible refine ev_id ?_; refine ev_guard rfl (fun K' hK' => ?_)) | (with_reducible refine ed_id ?_; refine ed_guard rfl (fun K' hK' => ?_))); simp [h49, h48]; repeat' (first | (with_reducible refine hK' _ _ ?_; clear hK' K') | (with_reducible refine And.intro ?_ ?_) | (with_reducible intro hg) | (clear hK' K'; omega)))
          | (with_reducible refine w_cond (fun A B hA hB => ?_); simp [h49, h48]; repeat' (first | (with_reducible refine hA ?_; clear hA hB A B) | (with_reducible refine hB ?_; clear hA hB A B) | (with_reducible refine And.intro ?_ ?_) | (with_reducible intro hc)))
          | (with_reducible refine awp_seq ?_))
        exact ⟨by simp [nextAns], sub_new hb⟩
end Go.Am
namespace Go.Am
open Go Go.Proofs
set_option linter.unusedVariables false
set_option linter.unusedSimpArgs false
variable {w0 : World}
attribute [local irreducible] AWP ACalls
attribute [local congr] acalls_congr
def rAV (R : Nat) (arcs : List (Int × Int)) : AV := if arcs = [] then .sl [] 0 else .ref R 0 arcs.length arcs.length
def cAV (C : Nat) (cuts : List (List Int × Int)) : AV := if cuts = [] then .sc (.slice none 0 0) else .ref C 0 cuts.length cuts.length
def cutCells (cuts : List (List Int × Int)) : List AV := cuts.flatMap fun c => [ints c.1, I c.2]
structure NetS (H h : Heap) (F R T C n : Nat) (arcs : List (Int × Int)) (root : Int) (st : ASt) : Prop where
  sub : Sub H h
  nF : H F = none
  hF : h F = some (.box [I n, pairs arcs, rAV R arcs, I root, tAV T st.tight, cAV C st.cuts])
  hR : arcs ≠ [] → H R = none ∧ h R = some (.arr 1 3 (labI arcs.length st.rest) arcs.length)
  hT : st.tight ≠ [] → T ≠ R ∧ H T = none ∧ h T = some (.arr 1 3 (st.tight.map I) st.tight.length)
  hC : st.cuts ≠ [] → H C = none ∧ h C = some (.arr 2 52 (cutCells st.cuts) st.cuts.length)
section
variable {H h : Heap} {F R T C n : Nat} {arcs : List (Int × Int)} {root : Int} {st : ASt}
theorem NetS.FR (s : NetS H h F R T C n arcs root st) (ha : arcs ≠ []) : F ≠ R := fun e => by
  have h1 := (s.hR ha).2
  rw [← e, s.hF] at h1; cases h1
theorem NetS.FT (s : NetS H h F R T C n arcs root st) (ha : st.tight ≠ []) : F ≠ T := fun e => by
  have h1 := (s.hT ha).2.2
  rw [← e, s.hF] at h1; cases h1
theorem NetS.FC (s : NetS H h F R T C n arcs root st) (ha : st.cuts ≠ []) : F ≠ C := fun e => by
  have h1 := (s.hC ha).2
  rw [← e, s.hF] at h1; cases h1
theorem NetS.RC (s : NetS H h F R T C n arcs root st) (ha : arcs ≠ []) (hc : st.cuts ≠ []) : R ≠ C := fun e => by
  have h1 := (s.hC hc).2
  rw [← e, (s.hR ha).2] at h1; cases h1
theorem NetS.TC (s : NetS H h F R T C n arcs root st) (ha : st.tight ≠ []) (hc : st.cuts ≠ []) : T ≠ C := fun e => by
  have h1 := (s.hC hc).2
  rw [← e, (s.hT ha).2.2] at h1; cases h1
theorem NetS.read (s : NetS H h F R T C n arcs root st) : NetR h F T n arcs root st.tight (rAV R arcs) (cAV C st.cuts) := ⟨s.hF, fun e => (s.hT e).2.2⟩
theorem sub_free {H h : Heap} (s : Sub H h) {r : Nat} (hr : h r = none) : H r = none := by
  cases e : H r with
  | none => rfl
  | some k => rw [s r k e] at hr; cases hr
theorem NetS.setR (s : NetS H h F R T C n arcs root st) (ha : arcs ≠ []) {f : Int → Int} {cells : List AV} (hc : cells = labI arcs.length f) :
    NetS H (upd h R (some (.arr 1 3 cells arcs.length))) F R T C n arcs root ⟨f, st.tight, st.cuts⟩ where
  sub := s.sub.upd (s.hR ha).1 _
  nF := s.nF
  hF := by rw [upd_ne _ _ _ (s.FR ha)]; exact s.hF
  hR _ := ⟨(s.hR ha).1, by rw [upd_same, hc]⟩
  hT e := ⟨(s.hT e).1, (s.hT e).2.1, by rw [upd_ne _ _ _ (s.hT e).1]; exact (s.hT e).2.2⟩
  hC e := ⟨(s.hC e).1, by rw [upd_ne _ _ _ (Ne.symm (s.RC ha e))]; exact (s.hC e).2⟩
theorem NetS.newT (s : NetS H h F R T C n arcs root st) (ha : arcs ≠ []) (h0 : st.tight = []) {T' : Nat} (hT' : h T' = none) {i : Int} :
    NetS H (upd (upd h T' (some (.arr 1 3 [I i] 1))) F (some (.box [I n, pairs arcs, rAV R arcs, I root, .ref T' 0 1 1, cAV C st.cuts]))) F R T' C n arcs root ⟨st.rest, [i], st.cuts⟩ where
  sub := (s.sub.upd (sub_free s.sub hT') _).upd s.nF _
  nF := s.nF
  hF := by rw [upd_same]; rfl
  hR _ := ⟨(s.hR ha).1, by
    rw [upd_ne _ _ _ (Ne.symm (s.FR ha)), upd_ne _ _ _ (fun e => by rw [← e, (s.hR ha).2] at hT'; cases hT')]; exact (s.hR ha).2⟩
  hT _ := ⟨fun e => (by rw [e, (s.hR ha).2] at hT'; cases hT'), sub_free s.sub hT', by
    rw [upd_ne _ _ _ (fun e => by rw [e, s.hF] at hT'; cases hT'), upd_same]; rfl⟩
  hC e := ⟨(s.hC e).1, by
    rw [upd_ne _ _ _ (Ne.symm (s.FC e)), upd_ne _ _ _ (fun e' => by rw [← e', (s.hC e).2] at hT'; cases hT')]; exact (s.hC e).2⟩
theorem NetS.moreT (s : NetS H h F R T C n arcs root st) (ha : arcs ≠ []) (h0 : st.tight ≠ []) {i : Int} :
    NetS H (upd (upd h T (some (.arr 1 3 (st.tight.map I ++ [I i]) (st.tight.length + 1)))) F (some (.box [I n, pairs arcs, rAV R arcs, I root, .ref T 0 (st.tight.length + 1) (st.tight.length + 1), cAV C st.cuts]))) F R T C n arcs root ⟨st.rest, st.tight ++ [i], st.cuts⟩ where
  sub := (s.sub.upd (s.hT h0).2.1 _).upd s.nF _
  nF := s.nF
  hF := by rw [upd_same]; simp [tAV]
  hR _ := ⟨(s.hR ha).1, by rw [upd_ne _ _ _ (Ne.symm (s.FR ha)), upd_ne _ _ _ (Ne.symm (s.hT h0).1)]; exact (s.hR ha).2⟩
  hT _ := ⟨(s.hT h0).1, (s.hT h0).2.1, by rw [upd_ne _ _ _ (Ne.symm (s.FT h0)), upd_same]; simp⟩
  hC e := ⟨(s.hC e).1, by rw [upd_ne _ _ _ (Ne.symm (s.FC e)), upd_ne _ _ _ (Ne.symm (s.TC h0 e))]; exact (s.hC e).2⟩
theorem NetS.newC (s : NetS H h F R T C n arcs root st) (h0 : st.cuts = []) {C' : Nat} (hC' : h C' = none) {c : List Int} {y : Int} :
    NetS H (upd (upd h C' (some (.arr 2 52 [ints c, I y] 1))) F (some (.box [I n, pairs arcs, rAV R arcs, I root, tAV T st.tight, .ref C' 0 1 1]))) F R T C' n arcs root ⟨st.rest, st.tight, [(c, y)]⟩ where
  sub := (s.sub.upd (sub_free s.sub hC') _).upd s.nF _
  nF := s.nF
  hF := by rw [upd_same]; rfl
  hR ha := ⟨(s.hR ha).1, by
    rw [upd_ne _ _ _ (Ne.symm (s.FR ha)), upd_ne _ _ _ (fun e => by rw [← e, (s.hR ha).2] at hC'; cases hC')]; exact (s.hR ha).2⟩
  hT e := ⟨(s.hT e).1, (s.hT e).2.1, by
    rw [upd_ne _ _ _ (Ne.symm (s.FT e)), upd_ne _ _ _ (fun e' => by rw [← e', (s.hT e).2.2] at hC'; cases hC')]; exact (s.hT e).2.2⟩
  hC _ := ⟨sub_free s.sub hC', by rw [upd_ne _ _ _ (fun e => by rw [e, s.hF] at hC'; cases hC'), upd_same]; rfl⟩
theorem NetS.moreC (s : NetS H h F R T C n arcs root st) (h0 : st.cuts ≠ []) {c : List Int} {y : Int} :
    NetS H (upd (upd h C (some (.arr 2 52 (cutCells st.cuts ++ [ints c, I y]) (st.cuts.length + 1)))) F (some (.box [I n, pairs arcs, rAV R arcs, I root, tAV T st.tight, .ref C 0 (st.cuts.length + 1) (st.cuts.length + 1)]))) F R T C n arcs root ⟨st.rest, st.tight, st.cuts ++ [(c, y)]⟩ where
  sub := (s.sub.upd (s.hC h0).1 _).upd s.nF _
  nF := s.nF
  hF := by rw [upd_same]; simp [cAV]
  hR ha := ⟨(s.hR ha).1, by rw [upd_ne _ _ _ (Ne.symm (s.FR ha)), upd_ne _ _ _ (s.RC ha h0)]; exact (s.hR ha).2⟩
  hT e := ⟨(s.hT e).1, (s.hT e).2.1, by rw [upd_ne _ _ _ (Ne.symm (s.FT e)), upd_ne _ _ _ (s.TC e h0)]; exact (s.hT e).2.2⟩
  hC _ := ⟨(s.hC h0).1, by rw [upd_ne _ _ _ (Ne.symm (s.FC h0)), upd_same]; simp [cutCells]⟩
end
def restK (rest : Int → Int) (e : List Int) (y : Int) (k : Nat) : Int → Int := fun i => if i ∈ e.take k then rest i - y else rest i
theorem leastR_fold (rest : Int → Int) {e : List Int} (h : 0 < e.length) : leastR rest e = e.foldl (fun y j => min y (rest j)) (rest (e[0]'h)) := by
  cases e with
  | nil => simp at h
  | cons a l => simp [leastR]
set_option maxHeartbeats 4000000 in
theorem pay_use {H h : Heap} {F R T C n : Nat} {arcs : List (Int × Int)} {root : Int} {st : ASt} {s : List Int} (N : NetA n arcs root) (hs : NetS H h F R T C n arcs root st) (hsl : okLen s)
    (hrb : ∀ i : Int, 0 ≤ i → i < arcs.length → -8589934592 ≤ st.rest i ∧ st.rest i ≤ 8589934592) (hlt : st.tight.length ≤ 4096) (hlc : st.cuts.length ≤ 4096) {K : AV → Heap → Prop}
    (k0 : entA arcs no0 s = [] → K (B false) h) (k1 : entA arcs no0 s ≠ [] → ∀ T' C' h', NetS H h' F R T' C' n arcs root (payA arcs st s) → K (B true) h') :
    ACalls Try.prog w0 53 [.ptr F 0 0, ints s] h K := by
  refine (?_ : ACalls Try.prog w0 53 [.ptr F 0 0, ints s] h (fun v h' => (entA arcs no0 s = [] ∧ v = B false ∧ h' = h) ∨ (entA arcs no0 s ≠ [] ∧ v = B true ∧ ∃ T' C', NetS H h' F R T' C' n arcs root (payA arcs st s)))).drop ?_
  rotate_left
  · rintro v h' (⟨e, rfl, rfl⟩ | ⟨e, rfl, T', C', hh⟩)
    · exact ⟨_, .refl _, k0 e⟩
    · exact ⟨_, .refl _, k1 e T' C' h' hh⟩
  clear k0 k1 K
  have hm := N.mle
  have hF := hs.hF
  have hent := entersA_ret (w0 := w0) (arcs := arcs) (s := s) (by simp only [smLen]; omega) hsl
  have hnd : (entA arcs no0 s).Nodup := (nodup_upto _).filter _
  have hrg : ∀ i ∈ entA arcs no0 s, 0 ≤ i ∧ i < arcs.length := fun i hi => (mem_ent.1 hi).1
  have hel : (entA arcs no0 s).length ≤ 64 := by
    have := nodup_le _ (upto arcs.length) hnd fun i hi => mem_upto.2 (hrg i hi)
    rw [upto_length] at this; omega
  have hpay : payA arcs st s = ⟨restK st.rest (entA arcs no0 s) (leastR st.rest (entA arcs no0 s)) (entA arcs no0 s).length, st.tight ++ (entA arcs no0 s).filter (fun i => decide (st.rest i - leastR st.rest (entA arcs no0 s) = 0)), st.cuts ++ [(s, leastR st.rest (entA arcs no0 s))]⟩ := by
    rw [payA]
    have hrk : restK st.rest (entA arcs no0 s) (leastR st.rest (entA arcs no0 s)) (entA arcs no0 s).length = fun i => if i ∈ entA arcs no0 s then st.rest i - leastR st.rest (entA arcs no0 s) else st.rest i := by
      funext i
      rw [restK, List.take_length]
    have : (entA arcs no0 s).filter (fun i => decide ((if i ∈ entA arcs no0 s then st.rest i - leastR st.rest (entA arcs no0 s) else st.rest i) = 0)) = (entA arcs no0 s).filter (fun i => decide (st.rest i - leastR st.rest (entA arcs no0 s) = 0)) :=
      List.filter_congr fun i hi => by rw [if_pos hi]
    rw [this, hrk]
  rw [hpay]
  clear hpay
  generalize hE : entA arcs no0 s = e at *
  refine w_enter Try.func53 rfl Try.ntmps53 (ts := [4]) rfl (by simp) (by kernel_rfl) ?_
  by_cases he : e = []
  · subst he
    repeat' (first
      | (with_reducible refine awp_skip ?_)
      | (with_reducible refine then_any ?_)
      | (with_reducible refine then_ret ?_)
      | (with_reducible refine then_exit ?_)
      | (with_reducible refine inBlock_normal ?_)
      | (with_reducible refine inBlock_ret ?_)
      | (with_reducible refine inBlock_hit ?_)
      | (with_reducible refine inBlock_miss (by decide) ?_)
      | (with_reducible refine awp_ret ?_)
      | (with_reducible refine awp_exit ?_)
      | (with_reducible refine post_ret ?_)
      | (with_reducible refine post_normal ?_)
      | (with_reducible refine awp_block ?_)
      | (with_reducible refine awp_scope_ret ?_)
      | (with_reducible refine awp_label ?_)
      | (with_reducible refine v_reg [] (fun K hK => ?_))
      | (with_reducible refine v_reg1 [] (fun K hK => ?_))
      | (with_reducible refine v_draw mixed [] [] (by kernel_rfl) (fun K hK => ?_))
      | (with_reducible refine v_draw1 mixed [] [] (by kernel_rfl) (fun K hK => ?_))
      | (with_reducible refine ev_nil (hK _ _ ?_); clear hK K)
      | (with_reducible refine ed_nil (hK _ _ ?_); clear hK K)
      | ((first | with_reducible refine ev_cons (fun K' hK' => ?_) | with_reducible refine ed_cons (fun K' hK' => ?_) | (with_reducible refine ev_id ?_; refine ev_guard rfl (fun K' hK' => ?_)) | (with_reducible refine ed_id ?_; refine ed_guard rfl (fun K' hK' => ?_))); simp [hF, pairs, ints]; repeat' (first | (with_reducible refine hK' _ _ ?_; clear hK' K') | (with_reducible refine Ret.use hent ?_; try simp [hF, pairs, ints]) | (with_reducible refine And.intro ?_ ?_) | (with_reducible intro hg) | (clear hK' K'; omega)))
      | (with_reducible refine w_cond (fun A B hA hB => ?_); simp [hF, pairs, ints]; repeat' (first | (with_reducible refine hA ?_; clear hA hB A B) | (with_reducible refine hB ?_; clear hA hB A B) | (with_reducible refine And.intro ?_ ?_) | (with_reducible intro hc)))
      | (with_reducible refine awp_seq ?_))
    exact .inl ⟨rfl, by simp, rfl⟩
  have hpos : 0 < e.length := List.length_pos_iff.2 he
  have hne : ¬ (e.length : Int) = 0 := by omega
  have hne' : ¬ e.length = 0 := by omega
  obtain ⟨z0, z1⟩ := hrg _ (List.getElem_mem hpos)
  have harc : arcs ≠ [] := by rintro rfl; simp at z1; omega
  have hR := (hs.hR harc).2
  have hFR := hs.FR harc
  have hrAV : rAV R arcs = .ref R 0 arcs.length arcs.length := if_neg harc
  have lat : ∀ (f : Int → Int) (i : Int), 0 ≤ i → ∀ h : i.toNat < (labI arcs.length f).length, (labI arcs.length f)[i.toNat]'h = I (f i) := fun f i h0 h => labI_at h0 h
  have llen : ∀ f : Int → Int, (labI arcs.length f).length = arcs.length := fun f => labI_length _ f
  have hlf := leastR_fold st.rest hpos
  have hz : e[0].toNat < arcs.length := by omega
  rw [hrAV] at hF
  repeat' (first
    | (with_reducible refine awp_skip ?_)
    | (with_reducible refine then_any ?_)
    | (with_reducible refine then_ret ?_)
    | (with_reducible refine then_exit ?_)
    | (with_reducible refine inBlock_normal ?_)
    | (with_reducible refine inBlock_ret ?_)
    | (with_reducible refine inBlock_hit ?_)
    | (with_reducible refine inBlock_miss (by decide) ?_)
    | (with_reducible refine awp_ret ?_)
    | (with_reducible refine awp_exit ?_)
    | (with_reducible refine post_ret ?_)
    | (with_reducible refine post_normal ?_)
    | (with_reducible refine awp_block ?_)
    | (with_reducible refine awp_scope_ret ?_)
    | (with_reducible refine awp_label ?_)
    | (with_reducible refine v_reg [] (fun K hK => ?_))
    | (with_reducible refine v_reg1 [] (fun K hK => ?_))
    | (with_reducible refine v_draw mixed [] [] (by kernel_rfl) (fun K hK => ?_))
    | (with_reducible refine v_draw1 mixed [] [] (by kernel_rfl) (fun K hK => ?_))
    | (with_reducible refine ev_nil (hK _ _ ?_); clear hK K)
    | (with_reducible refine ed_nil (hK _ _ ?_); clear hK K)
    | ((first | with_reducible refine ev_cons (fun K' hK' => ?_) | with_reducible refine ed_cons (fun K' hK' => ?_) | (with_reducible refine ev_id ?_; refine ev_guard rfl (fun K' hK' => ?_)) | (with_reducible refine ed_id ?_; refine ed_guard rfl (fun K' hK' => ?_))); simp [hF, pairs, ints, hne, hne', hpos, hR, lat _ _ z0, llen, z0, hz]; repeat' (first | (with_reducible refine hK' _ _ ?_; clear hK' K') | (with_reducible refine Ret.use hent ?_; try simp [hF, pairs, ints, hne, hne', hpos, hR, lat _ _ z0, llen, z0, hz]) | (with_reducible refine And.intro ?_ ?_) | (with_reducible intro hg) | (clear hK' K'; omega)))
    | (with_reducible refine w_cond (fun A B hA hB => ?_); simp [hF, pairs, ints, hne, hne', hpos, hR, lat _ _ z0, llen, z0, hz]; repeat' (first | (with_reducible refine hA ?_; clear hA hB A B) | (with_reducible refine hB ?_; clear hA hB A B) | (with_reducible refine And.intro ?_ ?_) | (with_reducible intro hc)))
    | (with_reducible refine awp_seq ?_))
  refine awp_loop (fun env h' => ∃ k : Nat, k ≤ e.length ∧ env 31 = I k ∧ env 30 = I e.length ∧ env 29 = ints e ∧ env 6 = I ((e.take k).foldl (fun y j => min y (st.rest j)) (st.rest e[0])) ∧ env 0 = .ptr F 0 0 ∧ env 1 = ints s ∧ env 5 = ints e ∧ h' = h) (fun env _ => e.length - natA (env 31)) ?_ ?_
  · exact ⟨0, by omega, by simp, by simp, by simp [ints], by simp, by simp, by simp [ints], by simp [ints], rfl⟩
  rintro env h' ⟨k, hk, h31, h30, h29, h6, h0, h1, h5, rfl⟩
  have hnat : natA (env 31) = k := by simp [h31]
  rw [hnat]; clear hnat
  by_cases hke : k < e.length
  · obtain ⟨i0, i1⟩ := hrg _ (List.getElem_mem hke)
    have htk : (e.take (k + 1)).foldl (fun y j => min y (st.rest j)) (st.rest e[0]) = min ((e.take k).foldl (fun y j => min y (st.rest j)) (st.rest e[0])) (st.rest e[k]) := by
      rw [List.take_succ_eq_append_getElem hke, List.foldl_append]; rfl
    have hil : e[k].toNat < arcs.length := by omega
    generalize (e.take k).foldl (fun y j => min y (st.rest j)) (st.rest e[0]) = y at *
    repeat' (first
      | (with_reducible refine awp_skip ?_)
      | (with_reducible refine then_any ?_)
      | (with_reducible refine then_ret ?_)
      | (with_reducible refine then_exit ?_)
      | (with_reducible refine inBlock_normal ?_)
      | (with_reducible refine inBlock_ret ?_)
      | (with_reducible refine inBlock_hit ?_)
      | (with_reducible refine inBlock_miss (by decide) ?_)
      | (with_reducible refine awp_ret ?_)
      | (with_reducible refine awp_exit ?_)
      | (with_reducible refine post_ret ?_)
      | (with_reducible refine post_normal ?_)
      | (with_reducible refine awp_block ?_)
      | (with_reducible refine awp_scope_ret ?_)
      | (with_reducible refine awp_label ?_)
      | (with_reducible refine v_reg [] (fun K hK => ?_))
      | (with_reducible refine v_reg1 [] (fun K hK => ?_))
      | (with_reducible refine v_draw mixed [] [] (by kernel_rfl) (fun K hK => ?_))
      | (with_reducible refine v_draw1 mixed [] [] (by kernel_rfl) (fun K hK => ?_))
      | (with_reducible refine ev_nil (hK _ _ ?_); clear hK K)
      | (with_reducible refine ed_nil (hK _ _ ?_); clear hK K)
      | ((first | with_reducible refine ev_cons (fun K' hK' => ?_) | with_reducible refine ed_cons (fun K' hK' => ?_) | (with_reducible refine ev_id ?_; refine ev_guard rfl (fun K' hK' => ?_)) | (with_reducible refine ed_id ?_; refine ed_guard rfl (fun K' hK' => ?_))); simp [h31, h30, h29, h6, h0, h1, h5, hF, hR, lat _ _ i0, llen, hke, i0, hil, ints]; repeat' (first | (with_reducible refine hK' _ _ ?_; clear hK' K') | (with_reducible refine And.intro ?_ ?_) | (with_reducible intro hg) | (clear hK' K'; omega)))
      | (with_reducible refine w_cond (fun A B hA hB => ?_); simp [h31, h30, h29, h6, h0, h1, h5, hF, hR, lat _ _ i0, llen, hke, i0, hil, ints]; repeat' (first | (with_reducible refine hA ?_; clear hA hB A B) | (with_reducible refine hB ?_; clear hA hB A B) | (with_reducible refine And.intro ?_ ?_) | (with_reducible intro hc)))
      | (with_reducible refine awp_seq ?_))
    exact ⟨⟨k + 1, by omega, by simp, by simp [h30], by simp [h29, ints], by simp [htk], by simp [h0], by simp [h1, ints], by simp [h5, ints], rfl⟩, by simp; omega⟩
  have : k = e.length := by omega
  subst this
  rw [List.take_length, ← hlf] at h6
  have hyb : -8589934592 ≤ leastR st.rest e ∧ leastR st.rest e ≤ 8589934592 := by
    obtain ⟨i, hi, h⟩ := least_mem (rest := st.rest) he
    rw [h]; exact hrb i (hrg i hi).1 (hrg i hi).2
  generalize hy : leastR st.rest e = y at *
  repeat' (first
    | (with_reducible refine awp_skip ?_)
    | (with_reducible refine then_any ?_)
    | (with_reducible refine then_ret ?_)
    | (with_reducible refine then_exit ?_)
    | (with_reducible refine inBlock_normal ?_)
    | (with_reducible refine inBlock_ret ?_)
    | (with_reducible refine inBlock_hit ?_)
    | (with_reducible refine inBlock_miss (by decide) ?_)
    | (with_reducible refine awp_ret ?_)
    | (with_reducible refine awp_exit ?_)
    | (with_reducible refine post_ret ?_)
    | (with_reducible refine post_normal ?_)
    | (with_reducible refine awp_block ?_)
    | (with_reducible refine awp_scope_ret ?_)
    | (with_reducible refine awp_label ?_)
    | (with_reducible refine v_reg [] (fun K hK => ?_))
    | (with_reducible refine v_reg1 [] (fun K hK => ?_))
    | (with_reducible refine v_draw mixed [] [] (by kernel_rfl) (fun K hK => ?_))
    | (with_reducible refine v_draw1 mixed [] [] (by kernel_rfl) (fun K hK => ?_))
    | (with_reducible refine ev_nil (hK _ _ ?_); clear hK K)
    | (with_reducible refine ed_nil (hK _ _ ?_); clear hK K)
    | ((first | with_reducible refine ev_cons (fun K' hK' => ?_) | with_reducible refine ed_cons (fun K' hK' => ?_) | (with_reducible refine ev_id ?_; refine ev_guard rfl (fun K' hK' => ?_)) | (with_reducible refine ed_id ?_; refine ed_guard rfl (fun K' hK' => ?_))); simp [h31, h30, h5, ints]; repeat' (first | (with_reducible refine hK' _ _ ?_; clear hK' K') | (with_reducible refine And.intro ?_ ?_) | (with_reducible intro hg) | (clear hK' K'; omega)))
    | (with_reducible refine w_cond (fun A B hA hB => ?_); simp [h31, h30, h5, ints]; repeat' (first | (with_reducible refine hA ?_; clear hA hB A B) | (with_reducible refine hB ?_; clear hA hB A B) | (with_reducible refine And.intro ?_ ?_) | (with_reducible intro hc)))
    | (with_reducible refine awp_seq ?_))
  clear h31 h30 h29 hent hlf hne hne' z0 z1 hz hpos hF hrAV
  refine awp_loop (fun env h' => ∃ (k : Nat) (T : Nat), k ≤ e.length ∧ env 47 = I k ∧ env 46 = I e.length ∧ env 45 = ints e ∧ env 6 = I y ∧ env 0 = .ptr F 0 0 ∧ env 1 = ints s ∧
      NetS H h' F R T C n arcs root ⟨restK st.rest e y k, st.tight ++ (e.take k).filter (fun i => decide (st.rest i - y = 0)), st.cuts⟩) (fun env _ => e.length - natA (env 47)) ?_ ?_
  · refine ⟨0, T, by omega, by simp, by simp, by simp [ints], by simp [h6], by simp [h0], by simp [h1, ints], ?_⟩
    have : restK st.rest e y 0 = st.rest := by funext i; simp [restK]
    rw [this]
    simpa using hs
  clear h6 h0 h1 h5 hs hR
  rintro env h' ⟨k, T, hk, h47, h46, h45, h6, h0, h1, hs⟩
  have hnat : natA (env 47) = k := by simp [h47]
  rw [hnat]; clear hnat
  by_cases hke : k < e.length
  · obtain ⟨i0, i1⟩ := hrg _ (List.getElem_mem hke)
    have hil : e[k].toNat < arcs.length := by omega
    have hR := (hs.hR harc).2
    have hF := hs.hF
    have hFR := hs.FR harc
    have hrAV : rAV R arcs = .ref R 0 arcs.length arcs.length := if_neg harc
    have hnk : e[k] ∉ e.take k := by
      intro hm
      obtain ⟨j, hj, hje⟩ := List.mem_take_iff_getElem.1 hm
      have := (List.nodup_iff_pairwise_ne.1 hnd |> List.pairwise_iff_getElem.1) j k (by omega) hke (by omega)
      exact this hje
    have hrk : restK st.rest e y k e[k] = st.rest e[k] := by rw [restK, if_neg hnk]
    have hset := labI_setF (n := arcs.length) (f := restK st.rest e y k) (w := e[k]) (x := st.rest e[k] - y) i0
    have hrk1 : setF (restK st.rest e y k) e[k] (st.rest e[k] - y) = restK st.rest e y (k + 1) := by
      funext i
      by_cases ei : i = e[k]
      · subst ei
        rw [setF_same, restK, if_pos (by rw [List.take_succ_eq_append_getElem hke]; exact List.mem_append.2 (.inr (List.mem_singleton.2 rfl)))]
      · rw [setF_ne _ _ ei, restK, restK, List.take_succ_eq_append_getElem hke]
        have : i ∈ e.take k ++ [e[k]] ↔ i ∈ e.take k := by
          rw [List.mem_append, List.mem_singleton]
          exact ⟨fun h => h.elim id fun h => absurd h ei, .inl⟩
        by_cases hm : i ∈ e.take k
        · rw [if_pos hm, if_pos (this.2 hm)]
        · rw [if_neg hm, if_neg fun h => hm (this.1 h)]
    rw [hrk1] at hset
    have hs1 := hs.setR harc (f := restK st.rest e y (k + 1)) rfl
    have hrb1 := hrb e[k] i0 i1
    have htk : (e.take (k + 1)).filter (fun i => decide (st.rest i - y = 0)) = (e.take k).filter (fun i => decide (st.rest i - y = 0)) ++ if st.rest e[k] - y = 0 then [e[k]] else [] := by
      rw [List.take_succ_eq_append_getElem hke, List.filter_append, List.filter_cons]
      by_cases h : st.rest e[k] - y = 0 <;> simp [h]
    rw [hrAV] at hF
    have hlat0 := lat (restK st.rest e y k) e[k] i0
    rw [hrk] at hlat0
    have hlat1 := lat (restK st.rest e y (k + 1)) e[k] i0
    have hrk2 : restK st.rest e y (k + 1) e[k] = st.rest e[k] - y := by rw [← hrk1, setF_same]
    rw [hrk2] at hlat1
    repeat' (first
      | (with_reducible refine awp_skip ?_)
      | (with_reducible refine then_any ?_)
      | (with_reducible refine then_ret ?_)
      | (with_reducible refine then_exit ?_)
      | (with_reducible refine inBlock_normal ?_)
      | (with_reducible refine inBlock_ret ?_)
      | (with_reducible refine inBlock_hit ?_)
      | (with_reducible refine inBlock_miss (by decide) ?_)
      | (with_reducible refine awp_ret ?_)
      | (with_reducible refine awp_exit ?_)
      | (with_reducible refine post_ret ?_)
      | (with_reducible refine post_normal ?_)
      | (with_reducible refine awp_block ?_)
      | (with_reducible refine awp_scope_ret ?_)
      | (with_reducible refine awp_label ?_)
      | ((fail_if_success (with_reducible refine at_reg 14 ?_)); with_reducible refine v_reg [] (fun K hK => ?_))
      | ((fail_if_success (with_reducible refine (?_ : AWP _ _ _ (Code.region 14 _ _) _ _ _))); with_reducible refine v_reg1 [] (fun K hK => ?_))
      | ((fail_if_success (with_reducible refine at_reg 14 ?_)); with_reducible refine v_draw mixed [] [] (by kernel_rfl) (fun K hK => ?_))
      | ((fail_if_success (with_reducible refine (?_ : AWP _ _ _ (Code.region 14 _ _) _ _ _))); with_reducible refine v_draw1 mixed [] [] (by kernel_rfl) (fun K hK => ?_))
      | (with_reducible refine ev_nil (hK _ _ ?_); clear hK K)
      | (with_reducible refine ed_nil (hK _ _ ?_); clear hK K)
      | ((first | with_reducible refine ev_cons (fun K' hK' => ?_) | with_reducible refine ed_cons (fun K' hK' => ?_) | (with_reducible refine ev_id ?_; refine ev_guard rfl (fun K' hK' => ?_)) | (with_reducible refine ed_id ?_; refine ed_guard rfl (fun K' hK' => ?_))); simp [h47, h46, h45, h6, h0, h1, hF, hR, hlat0, llen, hke, i0, hil, ints, hset]; repeat' (first | (with_reducible refine hK' _ _ ?_; clear hK' K') | (with_reducible refine And.intro ?_ ?_) | (with_reducible intro hg) | (clear hK' K'; omega)))
      | (with_reducible refine w_cond (fun A B hA hB => ?_); simp [h47, h46, h45, h6, h0, h1, hF, hR, hlat0, llen, hke, i0, hil, ints, hset]; repeat' (first | (with_reducible refine hA ?_; clear hA hB A B) | (with_reducible refine hB ?_; clear hA hB A B) | (with_reducible refine And.intro ?_ ?_) | (with_reducible intro hc)))
      | ((fail_if_success (with_reducible refine at_reg 14 ?_)); with_reducible refine awp_seq ?_))
    all_goals try omega
    obtain ⟨h2, hh2⟩ : ∃ h2, h2 = upd h' R (some (.arr 1 3 (labI arcs.length (restK st.rest e y (k + 1))) arcs.length)) := ⟨_, rfl⟩
    rw [← hh2] at hs1 ⊢
    clear hs hF hR hset hh2
    have hF := hs1.hF
    have hR := (hs1.hR harc).2
    rw [hrAV] at hF
    simp only at hF hR hs1
    obtain ⟨tg, htg⟩ : ∃ tg, tg = st.tight ++ (e.take k).filter (fun i => decide (st.rest i - y = 0)) := ⟨_, rfl⟩
    have htgl : tg.length ≤ 8192 := by
      have := List.length_filter_le (fun i => decide (st.rest i - y = 0)) (e.take k)
      rw [List.length_take] at this
      rw [htg, List.length_append]; omega
    rw [← htg] at hF hs1
    have hJ : ∀ h' T, NetS H h' F R T C n arcs root ⟨restK st.rest e y (k + 1), tg ++ (if st.rest e[k] - y = 0 then [e[k]] else []), st.cuts⟩ →
        NetS H h' F R T C n arcs root ⟨restK st.rest e y (k + 1), st.tight ++ (e.take (k + 1)).filter (fun i => decide (st.rest i - y = 0)), st.cuts⟩ := by
      intro h' T h
      rw [htk, ← List.append_assoc, ← htg]
      exact h
    by_cases hz : st.rest e[k] - y = 0
    · have hz' : st.rest e[k] = y := by omega
      rw [if_pos hz] at hJ
      by_cases ht0 : tg = []
      · have hF' := hF
        rw [tAV, if_pos ht0] at hF'
        repeat' (first
          | (with_reducible refine awp_skip ?_)
          | (with_reducible refine then_any ?_)
          | (with_reducible refine then_ret ?_)
          | (with_reducible refine then_exit ?_)
          | (with_reducible refine inBlock_normal ?_)
          | (with_reducible refine inBlock_ret ?_)
          | (with_reducible refine inBlock_hit ?_)
          | (with_reducible refine inBlock_miss (by decide) ?_)
          | (with_reducible refine awp_ret ?_)
          | (with_reducible refine awp_exit ?_)
          | (with_reducible refine post_ret ?_)
          | (with_reducible refine post_normal ?_)
          | (with_reducible refine awp_block ?_)
          | (with_reducible refine awp_scope_ret ?_)
          | (with_reducible refine awp_label ?_)
          | (with_reducible refine v_reg [] (fun K hK => ?_))
          | (with_reducible refine v_reg1 [] (fun K hK => ?_))
          | (with_reducible refine v_draw mixed [] [] (by kernel_rfl) (fun K hK => ?_))
          | (with_reducible refine v_draw1 mixed [] [] (by kernel_rfl) (fun K hK => ?_))
          | (with_reducible refine ev_nil (hK _ _ ?_); clear hK K)
          | (with_reducible refine ed_nil (hK _ _ ?_); clear hK K)
          | ((first | with_reducible refine ev_cons (fun K' hK' => ?_) | with_reducible refine ed_cons (fun K' hK' => ?_) | (with_reducible refine ev_id ?_; refine ev_guard rfl (fun K' hK' => ?_)) | (with_reducible refine ed_id ?_; refine ed_guard rfl (fun K' hK' => ?_))); simp [h47, h46, h45, h6, h0, h1, hF', hR, hlat1, llen, hke, i0, hil, ints, hz, hz']; repeat' (first | (with_reducible refine hK' _ _ ?_; clear hK' K') | (with_reducible refine And.intro ?_ ?_) | (with_reducible intro hg) | (clear hK' K'; omega)))
          | (with_reducible refine w_cond (fun A B hA hB => ?_); simp [h47, h46, h45, h6, h0, h1, hF', hR, hlat1, llen, hke, i0, hil, ints, hz, hz']; repeat' (first | (with_reducible refine hA ?_; clear hA hB A B) | (with_reducible refine hB ?_; clear hA hB A B) | (with_reducible refine And.intro ?_ ?_) | (with_reducible intro hc)))
          | (with_reducible refine awp_seq ?_))
        rename_i T'
        have hFT' : F ≠ T' := fun e => by rw [← e, hF] at hg; cases hg
        have hnew := hs1.newT harc ht0 hg (i := e[k])
        rw [hrAV] at hnew
        simp [hFT', hF']
        with_reducible refine hK' _ _ ?_
        clear hK' K'
        repeat' (first
          | (with_reducible refine awp_skip ?_)
          | (with_reducible refine then_any ?_)
          | (with_reducible refine then_ret ?_)
          | (with_reducible refine then_exit ?_)
          | (with_reducible refine inBlock_normal ?_)
          | (with_reducible refine inBlock_ret ?_)
          | (with_reducible refine inBlock_hit ?_)
          | (with_reducible refine inBlock_miss (by decide) ?_)
          | (with_reducible refine awp_ret ?_)
          | (with_reducible refine awp_exit ?_)
          | (with_reducible refine post_ret ?_)
          | (with_reducible refine post_normal ?_)
          | (with_reducible refine awp_block ?_)
          | (with_reducible refine awp_scope_ret ?_)
          | (with_reducible refine awp_label ?_)
          | (with_reducible refine v_reg [] (fun K hK => ?_))
          | (with_reducible refine v_reg1 [] (fun K hK => ?_))
          | (with_reducible refine v_draw mixed [] [] (by kernel_rfl) (fun K hK => ?_))
          | (with_reducible refine v_draw1 mixed [] [] (by kernel_rfl) (fun K hK => ?_))
          | (with_reducible refine ev_nil (hK _ _ ?_); clear hK K)
          | (with_reducible refine ed_nil (hK _ _ ?_); clear hK K)
          | ((first | with_reducible refine ev_cons (fun K' hK' => ?_) | with_reducible refine ed_cons (fun K' hK' => ?_) | (with_reducible refine ev_id ?_; refine ev_guard rfl (fun K' hK' => ?_)) | (with_reducible refine ed_id ?_; refine ed_guard rfl (fun K' hK' => ?_))); simp [h47, h46, h45, h6, h0, h1]; repeat' (first | (with_reducible refine hK' _ _ ?_; clear hK' K') | (with_reducible refine And.intro ?_ ?_) | (with_reducible intro hg) | (clear hK' K'; omega)))
          | (with_reducible refine w_cond (fun A B hA hB => ?_); simp [h47, h46, h45, h6, h0, h1]; repeat' (first | (with_reducible refine hA ?_; clear hA hB A B) | (with_reducible refine hB ?_; clear hA hB A B) | (with_reducible refine And.intro ?_ ?_) | (with_reducible intro hc)))
          | (with_reducible refine awp_seq ?_))
        exact ⟨⟨k + 1, T', by omega, by simp, by simp [h46], by simp [h45, ints], by simp [h6], by simp [h0], by simp [h1, ints], hJ _ _ (by rw [ht0]; exact hnew)⟩, by simp; omega⟩
      · have hF' := hF
        rw [tAV, if_neg ht0] at hF'
        have hT := (hs1.hT ht0).2.2
        have hFT := hs1.FT ht0
        repeat' (first
          | (with_reducible refine awp_skip ?_)
          | (with_reducible refine then_any ?_)
          | (with_reducible refine then_ret ?_)
          | (with_reducible refine then_exit ?_)
          | (with_reducible refine inBlock_normal ?_)
          | (with_reducible refine inBlock_ret ?_)
          | (with_reducible refine inBlock_hit ?_)
          | (with_reducible refine inBlock_miss (by decide) ?_)
          | (with_reducible refine awp_ret ?_)
          | (with_reducible refine awp_exit ?_)
          | (with_reducible refine post_ret ?_)
          | (with_reducible refine post_normal ?_)
          | (with_reducible refine awp_block ?_)
          | (with_reducible refine awp_scope_ret ?_)
          | (with_reducible refine awp_label ?_)
          | (with_reducible refine v_reg [] (fun K hK => ?_))
          | (with_reducible refine v_reg1 [] (fun K hK => ?_))
          | (with_reducible refine v_draw mixed [] [] (by kernel_rfl) (fun K hK => ?_))
          | (with_reducible refine v_draw1 mixed [] [] (by kernel_rfl) (fun K hK => ?_))
          | (with_reducible refine ev_nil (hK _ _ ?_); clear hK K)
          | (with_reducible refine ed_nil (hK _ _ ?_); clear hK K)
          | ((first | with_reducible refine ev_cons (fun K' hK' => ?_) | with_reducible refine ed_cons (fun K' hK' => ?_) | (with_reducible refine ev_id ?_; refine ev_guard rfl (fun K' hK' => ?_)) | (with_reducible refine ed_id ?_; refine ed_guard rfl (fun K' hK' => ?_))); simp [h47, h46, h45, h6, h0, h1, hF', hR, hT, hFT, hlat1, llen, hke, i0, hil, ints, hz, hz']; repeat' (first | (with_reducible refine hK' _ _ ?_; clear hK' K') | (with_reducible refine And.intro ?_ ?_) | (with_reducible intro hg) | (clear hK' K'; omega)))
          | (with_reducible refine w_cond (fun A B hA hB => ?_); simp [h47, h46, h45, h6, h0, h1, hF', hR, hT, hFT, hlat1, llen, hke, i0, hil, ints, hz, hz']; repeat' (first | (with_reducible refine hA ?_; clear hA hB A B) | (with_reducible refine hB ?_; clear hA hB A B) | (with_reducible refine And.intro ?_ ?_) | (with_reducible intro hc)))
          | (with_reducible refine awp_seq ?_))
        have hmore := hs1.moreT harc ht0 (i := e[k])
        rw [hrAV] at hmore
        exact ⟨⟨k + 1, T, by omega, by simp, by simp [h46], by simp [h45, ints], by simp [h6], by simp [h0], by simp [h1, ints], hJ _ _ hmore⟩, by simp; omega⟩
    · rw [if_neg hz] at hJ
      have hz' : ¬ st.rest e[k] = y := by omega
      repeat' (first
        | (with_reducible refine awp_skip ?_)
        | (with_reducible refine then_any ?_)
        | (with_reducible refine then_ret ?_)
        | (with_reducible refine then_exit ?_)
        | (with_reducible refine inBlock_normal ?_)
        | (with_reducible refine inBlock_ret ?_)
        | (with_reducible refine inBlock_hit ?_)
        | (with_reducible refine inBlock_miss (by decide) ?_)
        | (with_reducible refine awp_ret ?_)
        | (with_reducible refine awp_exit ?_)
        | (with_reducible refine post_ret ?_)
        | (with_reducible refine post_normal ?_)
        | (with_reducible refine awp_block ?_)
        | (with_reducible refine awp_scope_ret ?_)
        | (with_reducible refine awp_label ?_)
        | (with_reducible refine v_reg [] (fun K hK => ?_))
        | (with_reducible refine v_reg1 [] (fun K hK => ?_))
        | (with_reducible refine v_draw mixed [] [] (by kernel_rfl) (fun K hK => ?_))
        | (with_reducible refine v_draw1 mixed [] [] (by kernel_rfl) (fun K hK => ?_))
        | (with_reducible refine ev_nil (hK _ _ ?_); clear hK K)
        | (with_reducible refine ed_nil (hK _ _ ?_); clear hK K)
        | ((first | with_reducible refine ev_cons (fun K' hK' => ?_) | with_reducible refine ed_cons (fun K' hK' => ?_) | (with_reducible refine ev_id ?_; refine ev_guard rfl (fun K' hK' => ?_)) | (with_reducible refine ed_id ?_; refine ed_guard rfl (fun K' hK' => ?_))); simp [h47, h46, h45, h6, h0, h1, hF, hR, hlat1, llen, hke, i0, hil, ints, hz, hz']; repeat' (first | (with_reducible refine hK' _ _ ?_; clear hK' K') | (with_reducible refine And.intro ?_ ?_) | (with_reducible intro hg) | (clear hK' K'; omega)))
        | (with_reducible refine w_cond (fun A B hA hB => ?_); simp [h47, h46, h45, h6, h0, h1, hF, hR, hlat1, llen, hke, i0, hil, ints, hz, hz']; repeat' (first | (with_reducible refine hA ?_; clear hA hB A B) | (with_reducible refine hB ?_; clear hA hB A B) | (with_reducible refine And.intro ?_ ?_) | (with_reducible intro hc)))
        | (with_reducible refine awp_seq ?_))
      all_goals first | (exfalso; omega) | exact ⟨⟨k + 1, T, by omega, by simp, by simp [h46], by simp [h45, ints], by simp [h6], by simp [h0], by simp [h1, ints], hJ _ _ (by simpa using hs1)⟩, by simp; omega⟩
  · have : k = e.length := by omega
    subst this
    rw [List.take_length] at hs
    have hF := hs.hF
    by_cases hc0 : st.cuts = []
    · have hF' := hF
      rw [cAV, if_pos hc0] at hF'
      repeat' (first
        | (with_reducible refine awp_skip ?_)
        | (with_reducible refine then_any ?_)
        | (with_reducible refine then_ret ?_)
        | (with_reducible refine then_exit ?_)
        | (with_reducible refine inBlock_normal ?_)
        | (with_reducible refine inBlock_ret ?_)
        | (with_reducible refine inBlock_hit ?_)
        | (with_reducible refine inBlock_miss (by decide) ?_)
        | (with_reducible refine awp_ret ?_)
        | (with_reducible refine awp_exit ?_)
        | (with_reducible refine post_ret ?_)
        | (with_reducible refine post_normal ?_)
        | (with_reducible refine awp_block ?_)
        | (with_reducible refine awp_scope_ret ?_)
        | (with_reducible refine awp_label ?_)
        | (with_reducible refine v_reg [] (fun K hK => ?_))
        | (with_reducible refine v_reg1 [] (fun K hK => ?_))
        | (with_reducible refine v_draw mixed [] [] (by kernel_rfl) (fun K hK => ?_))
        | (with_reducible refine v_draw1 mixed [] [] (by kernel_rfl) (fun K hK => ?_))
        | (with_reducible refine ev_nil (hK _ _ ?_); clear hK K)
        | (with_reducible refine ed_nil (hK _ _ ?_); clear hK K)
        | ((first | with_reducible refine ev_cons (fun K' hK' => ?_) | with_reducible refine ed_cons (fun K' hK' => ?_) | (with_reducible refine ev_id ?_; refine ev_guard rfl (fun K' hK' => ?_)) | (with_reducible refine ed_id ?_; refine ed_guard rfl (fun K' hK' => ?_))); simp [h47, h46, h45, h6, h0, h1, hF', ints]; repeat' (first | (with_reducible refine hK' _ _ ?_; clear hK' K') | (with_reducible refine And.intro ?_ ?_) | (with_reducible intro hg) | (clear hK' K'; omega)))
        | (with_reducible refine w_cond (fun A B hA hB => ?_); simp [h47, h46, h45, h6, h0, h1, hF', ints]; repeat' (first | (with_reducible refine hA ?_; clear hA hB A B) | (with_reducible refine hB ?_; clear hA hB A B) | (with_reducible refine And.intro ?_ ?_) | (with_reducible intro hc)))
        | (with_reducible refine awp_seq ?_))
      rename_i C'
      have hFC' : F ≠ C' := fun e => by rw [← e, hF] at hg; cases hg
      have hnew := hs.newC hc0 hg (c := s) (y := y)
      simp [hFC', hF']
      with_reducible refine hK' _ _ ?_
      clear hK' K'
      repeat' (first
        | (with_reducible refine awp_skip ?_)
        | (with_reducible refine then_any ?_)
        | (with_reducible refine then_ret ?_)
        | (with_reducible refine then_exit ?_)
        | (with_reducible refine inBlock_normal ?_)
        | (with_reducible refine inBlock_ret ?_)
        | (with_reducible refine inBlock_hit ?_)
        | (with_reducible refine inBlock_miss (by decide) ?_)
        | (with_reducible refine awp_ret ?_)
        | (with_reducible refine awp_exit ?_)
        | (with_reducible refine post_ret ?_)
        | (with_reducible refine post_normal ?_)
        | (with_reducible refine awp_block ?_)
        | (with_reducible refine awp_scope_ret ?_)
        | (with_reducible refine awp_label ?_)
        | (with_reducible refine v_reg [] (fun K hK => ?_))
        | (with_reducible refine v_reg1 [] (fun K hK => ?_))
        | (with_reducible refine v_draw mixed [] [] (by kernel_rfl) (fun K hK => ?_))
        | (with_reducible refine v_draw1 mixed [] [] (by kernel_rfl) (fun K hK => ?_))
        | (with_reducible refine ev_nil (hK _ _ ?_); clear hK K)
        | (with_reducible refine ed_nil (hK _ _ ?_); clear hK K)
        | ((first | with_reducible refine ev_cons (fun K' hK' => ?_) | with_reducible refine ed_cons (fun K' hK' => ?_) | (with_reducible refine ev_id ?_; refine ev_guard rfl (fun K' hK' => ?_)) | (with_reducible refine ed_id ?_; refine ed_guard rfl (fun K' hK' => ?_))); simp; repeat' (first | (with_reducible refine hK' _ _ ?_; clear hK' K') | (with_reducible refine And.intro ?_ ?_) | (with_reducible intro hg) | (clear hK' K'; omega)))
        | (with_reducible refine w_cond (fun A B hA hB => ?_); simp; repeat' (first | (with_reducible refine hA ?_; clear hA hB A B) | (with_reducible refine hB ?_; clear hA hB A B) | (with_reducible refine And.intro ?_ ?_) | (with_reducible intro hc)))
        | (with_reducible refine awp_seq ?_))
      exact .inr ⟨he, by simp, T, C', by rw [hc0]; exact hnew⟩
    · have hF' := hF
      rw [cAV, if_neg hc0] at hF'
      have hC := (hs.hC hc0).2
      have hFC := hs.FC hc0
      repeat' (first
        | (with_reducible refine awp_skip ?_)
        | (with_reducible refine then_any ?_)
        | (with_reducible refine then_ret ?_)
        | (with_reducible refine then_exit ?_)
        | (with_reducible refine inBlock_normal ?_)
        | (with_reducible refine inBlock_ret ?_)
        | (with_reducible refine inBlock_hit ?_)
        | (with_reducible refine inBlock_miss (by decide) ?_)
        | (with_reducible refine awp_ret ?_)
        | (with_reducible refine awp_exit ?_)
        | (with_reducible refine post_ret ?_)
        | (with_reducible refine post_normal ?_)
        | (with_reducible refine awp_block ?_)
        | (with_reducible refine awp_scope_ret ?_)
        | (with_reducible refine awp_label ?_)
        | (with_reducible refine v_reg [] (fun K hK => ?_))
        | (with_reducible refine v_reg1 [] (fun K hK => ?_))
        | (with_reducible refine v_draw mixed [] [] (by kernel_rfl) (fun K hK => ?_))
        | (with_reducible refine v_draw1 mixed [] [] (by kernel_rfl) (fun K hK => ?_))
        | (with_reducible refine ev_nil (hK _ _ ?_); clear hK K)
        | (with_reducible refine ed_nil (hK _ _ ?_); clear hK K)
        | ((first | with_reducible refine ev_cons (fun K' hK' => ?_) | with_reducible refine ed_cons (fun K' hK' => ?_) | (with_reducible refine ev_id ?_; refine ev_guard rfl (fun K' hK' => ?_)) | (with_reducible refine ed_id ?_; refine ed_guard rfl (fun K' hK' => ?_))); simp [h47, h46, h45, h6, h0, h1, hF', hC, hFC, ints]; repeat' (first | (with_reducible refine hK' _ _ ?_; clear hK' K') | (with_reducible refine And.intro ?_ ?_) | (with_reducible intro hg) | (clear hK' K'; omega)))
        | (with_reducible refine w_cond (fun A B hA hB => ?_); simp [h47, h46, h45, h6, h0, h1, hF', hC, hFC, ints]; repeat' (first | (with_reducible refine hA ?_; clear hA hB A B) | (with_reducible refine hB ?_; clear hA hB A B) | (with_reducible refine And.intro ?_ ?_) | (with_reducible intro hc)))
        | (with_reducible refine awp_seq ?_))
      exact .inr ⟨he, by simp, T, C, hs.moreC hc0⟩
end Go.Am
namespace Go.Am
set_option linter.unusedVariables false
set_option linter.unusedSimpArgs false
def lessP (a b : Int × Int) : Bool := if a.1 = b.1 then decide (a.2 < b.2) else decide (a.1 < b.1)
def leP (a b : Int × Int) : Prop := lessP b a = false
theorem leP_iff {a b : Int × Int} : leP a b ↔ a.1 < b.1 ∨ (a.1 = b.1 ∧ a.2 ≤ b.2) := by
  unfold leP lessP
  split
  · simp; omega
  · simp; omega
theorem leP_refl (a : Int × Int) : leP a a := by rw [leP_iff]; omega
theorem leP_trans {a b c : Int × Int} (h : leP a b) (h' : leP b c) : leP a c := by rw [leP_iff] at *; omega
theorem leP_of_less {a b : Int × Int} (h : lessP a b = true) : leP a b := by
  rw [leP_iff]
  unfold lessP at h
  split at h <;> simp at h <;> omega
def gP (l : List (Int × Int)) (i : Nat) : Int × Int := l.getD i (0, 0)
def swapL (l : List (Int × Int)) (i k : Nat) : List (Int × Int) := (l.set i (gP l k)).set k (gP l i)
theorem gP_get {l : List (Int × Int)} {i : Nat} (h : i < l.length) : gP l i = l[i] := by simp [gP, List.getD_eq_getElem?_getD, h]
theorem swapL_length (l : List (Int × Int)) (i k : Nat) : (swapL l i k).length = l.length := by simp [swapL]
theorem swapL_perm {l : List (Int × Int)} {i k : Nat} (hi : i < l.length) (hk : k < l.length) : (swapL l i k).Perm l := by
  rw [swapL, gP_get hi, gP_get hk]
  exact List.set_set_perm hi hk
theorem gP_swap {l : List (Int × Int)} {i k : Nat} (hi : i < l.length) (hk : k < l.length) (x : Nat) : gP (swapL l i k) x = if x = k then gP l i else if x = i then gP l k else gP l x := by
  simp only [gP, swapL, List.getD_eq_getElem?_getD, List.getElem?_set, List.length_set]
  by_cases e1 : k = x
  · subst e1; simp [hk]
  · rw [if_neg e1, if_neg (Ne.symm e1)]
    by_cases e2 : i = x
    · subst e2; simp [hi]
    · rw [if_neg e2, if_neg (Ne.symm e2)]
def HeapP (l : List (Int × Int)) (n : Nat) : Prop := ∀ k, 0 < k → k < n → leP (gP l ((k - 1) / 2)) (gP l k)
theorem HeapP.least {l : List (Int × Int)} {n : Nat} (h : HeapP l n) : ∀ k, k < n → leP (gP l 0) (gP l k) := by
  intro k
  induction k using Nat.strongRecOn with
  | _ k ih =>
    intro hk
    by_cases h0 : k = 0
    · subst h0; exact leP_refl _
    · exact leP_trans (ih ((k - 1) / 2) (by omega) (by omega)) (h k (by omega) hk)
structure UpI (l : List (Int × Int)) (n j : Nat) : Prop where
  a : ∀ k, 0 < k → k < n → k ≠ j → leP (gP l ((k - 1) / 2)) (gP l k)
  b : ∀ k, 0 < k → k < n → (k - 1) / 2 = j → 0 < j → leP (gP l ((j - 1) / 2)) (gP l k)
theorem UpI.start {l : List (Int × Int)} {n : Nat} (h : HeapP l (n - 1)) : UpI l n (n - 1) := ⟨fun k h0 hk hne => h k h0 (by omega), fun k h0 hk he _ => by omega⟩
theorem UpI.top {l : List (Int × Int)} {n : Nat} (h : UpI l n 0) : HeapP l n := fun k h0 hk => h.a k h0 hk (by omega)
theorem UpI.stop {l : List (Int × Int)} {n j : Nat} (h : UpI l n j) (hl : lessP (gP l j) (gP l ((j - 1) / 2)) = false) : HeapP l n := fun k h0 hk => by
  by_cases e : k = j
  · subst e; exact hl
  · exact h.a k h0 hk e
theorem UpI.step {l : List (Int × Int)} {n j : Nat} (h : UpI l n j) (hn : n ≤ l.length) (hj : j < n) (h0 : 0 < j) (hl : lessP (gP l j) (gP l ((j - 1) / 2)) = true) : UpI (swapL l ((j - 1) / 2) j) n ((j - 1) / 2) := by
  have hle := leP_of_less hl
  have hg := fun x => gP_swap (l := l) (i := (j - 1) / 2) (k := j) (by omega) (by omega) x
  refine ⟨fun k k0 hk hne => ?_, fun k k0 hk he hi => ?_⟩
  · rw [hg, hg]
    by_cases e : k = j
    · subst e
      rw [if_pos rfl, if_neg (by omega), if_pos rfl]; exact hle
    · rw [if_neg e, if_neg hne]
      by_cases e1 : (k - 1) / 2 = j
      · rw [if_pos e1]
        exact h.b k k0 hk e1 h0
      · rw [if_neg e1]
        by_cases e2 : (k - 1) / 2 = (j - 1) / 2
        · rw [if_pos e2]
          have := h.a k k0 hk e
          rw [e2] at this
          exact leP_trans hle this
        · rw [if_neg e2]; exact h.a k k0 hk e
  · rw [hg, hg, if_neg (by omega), if_neg (by omega)]
    by_cases e : k = j
    · subst e
      rw [if_pos rfl]
      exact h.a _ hi (by omega) (by omega)
    · rw [if_neg e, if_neg (by omega)]
      have h1 := h.a k k0 hk e
      rw [he] at h1
      exact leP_trans (h.a _ hi (by omega) (by omega)) h1
structure DnI (l : List (Int × Int)) (n i : Nat) : Prop where
  a : ∀ k, 0 < k → k < n → (k - 1) / 2 ≠ i → leP (gP l ((k - 1) / 2)) (gP l k)
  b : ∀ k, 0 < k → k < n → (k - 1) / 2 = i → 0 < i → leP (gP l ((i - 1) / 2)) (gP l k)
theorem DnI.start {l : List (Int × Int)} {n : Nat} (h : HeapP l (n + 1)) (hl : n < l.length) : DnI (swapL l 0 n) n 0 := by
  refine ⟨fun k k0 hk hne => ?_, fun k k0 hk he h0 => by omega⟩
  have hg := fun x => gP_swap (l := l) (i := 0) (k := n) (by omega) hl x
  rw [hg, hg, if_neg (by omega), if_neg (by omega), if_neg (by omega), if_neg (by omega)]
  exact h k k0 (by omega)
theorem DnI.stop0 {l : List (Int × Int)} {n i : Nat} (h : DnI l n i) (hl : n ≤ 2 * i + 1) : HeapP l n := fun k h0 hk => h.a k h0 hk (by omega)
theorem DnI.stop {l : List (Int × Int)} {n i j : Nat} (h : DnI l n i) (hj : j = 2 * i + 1 ∨ j = 2 * i + 2) (hmin : ∀ k, k < n → (k = 2 * i + 1 ∨ k = 2 * i + 2) → leP (gP l j) (gP l k)) (hl : lessP (gP l j) (gP l i) = false) : HeapP l n := fun k h0 hk => by
  by_cases e : (k - 1) / 2 = i
  · rw [e]; exact leP_trans hl (hmin k hk (by omega))
  · exact h.a k h0 hk e
theorem DnI.step {l : List (Int × Int)} {n i j : Nat} (h : DnI l n i) (hn : n ≤ l.length) (hj : j = 2 * i + 1 ∨ j = 2 * i + 2) (hjn : j < n) (hmin : ∀ k, k < n → (k = 2 * i + 1 ∨ k = 2 * i + 2) → leP (gP l j) (gP l k)) (hl : lessP (gP l j) (gP l i) = true) : DnI (swapL l i j) n j := by
  have hle := leP_of_less hl
  have hg := fun x => gP_swap (l := l) (i := i) (k := j) (by omega) (by omega) x
  refine ⟨fun k k0 hk hne => ?_, fun k k0 hk he h0 => ?_⟩
  · rw [hg, hg, if_neg hne]
    by_cases e1 : (k - 1) / 2 = i
    · rw [if_pos e1]
      by_cases e2 : k = j
      · rw [if_pos e2]; exact hle
      · rw [if_neg e2, if_neg (by omega)]; exact hmin k hk (by omega)
    · rw [if_neg e1, if_neg (by omega)]
      by_cases e3 : k = i
      · rw [if_pos e3]
        have := h.b j (by omega) hjn (by omega) (by omega)
        rw [e3]; exact this
      · rw [if_neg e3]; exact h.a k k0 hk e1
  · rw [hg, hg, if_neg (by omega), if_pos (by omega), if_neg (by omega), if_neg (by omega)]
    have := h.a k k0 hk (by omega)
    rwa [he] at this
end Go.Am
namespace Go.Am
open Go Go.Proofs
set_option linter.unusedVariables false
set_option linter.unusedSimpArgs false
variable {w0 : World}
attribute [local irreducible] AWP ACalls
attribute [local congr] acalls_congr
structure CP (l : List (Int × Int)) (cells : List AV) : Prop where
  at0 : ∀ i, i < l.length → cells[i * 2]? = some (I (gP l i).1)
  at1 : ∀ i, i < l.length → cells[i * 2 + 1]? = some (I (gP l i).2)
section
variable {l : List (Int × Int)} {cells : List AV}
theorem CP.get0 (h : CP l cells) {i : Nat} (hi : i < l.length) : ∀ h', cells[i * 2]'h' = I (gP l i).1 := fun h' => by
  have := h.at0 i hi
  rw [List.getElem?_eq_getElem h'] at this
  simpa using this
theorem CP.get1 (h : CP l cells) {i : Nat} (hi : i < l.length) : ∀ h', cells[i * 2 + 1]'h' = I (gP l i).2 := fun h' => by
  have := h.at1 i hi
  rw [List.getElem?_eq_getElem h'] at this
  simpa using this
theorem CP.len (h : CP l cells) {i : Nat} (hi : i < l.length) : i * 2 + 1 < cells.length := by
  have := h.at1 i hi
  exact (List.getElem?_eq_some_iff.1 this).1
theorem CP.pair (h : CP l cells) {i : Nat} (hi : i < l.length) : (cells.drop (i * 2)).take 2 = [I (gP l i).1, I (gP l i).2] := by
  refine List.ext_getElem? fun j => ?_
  have h1 := h.at0 i hi
  have h2 := h.at1 i hi
  match j with
  | 0 => simpa [List.getElem?_take, List.getElem?_drop] using h1
  | 1 => simpa [List.getElem?_take, List.getElem?_drop] using h2
  | j + 2 => rw [List.getElem?_eq_none (by rw [List.length_take]; omega)]; rfl
theorem CP.swap (h : CP l cells) {i k : Nat} (hi : i < l.length) (hk : k < l.length) :
    CP (swapL l i k) ((((cells.set (i * 2) (I (gP l k).1)).set (i * 2 + 1) (I (gP l k).2)).set (k * 2) (I (gP l i).1)).set (k * 2 + 1) (I (gP l i).2)) := by
  have li := h.len hi
  have lk := h.len hk
  refine ⟨fun x hx => ?_, fun x hx => ?_⟩
  · rw [swapL_length] at hx
    have hx1 := h.at0 x hx
    simp only [List.getElem?_set, List.length_set, gP_swap hi hk]
    by_cases e1 : x = k
    · subst e1
      rw [if_neg (by omega), if_pos rfl, if_pos (by omega), if_pos rfl]
    · rw [if_neg (by omega), if_neg (by omega), if_neg e1]
      by_cases e2 : x = i
      · subst e2
        rw [if_neg (by omega), if_pos rfl, if_pos (by omega), if_pos rfl]
      · rw [if_neg (by omega), if_neg (by omega), if_neg e2]; exact hx1
  · rw [swapL_length] at hx
    have hx1 := h.at1 x hx
    simp only [List.getElem?_set, List.length_set, gP_swap hi hk]
    by_cases e1 : x = k
    · subst e1
      rw [if_pos rfl, if_pos (by omega), if_pos rfl]
    · rw [if_neg (by omega), if_neg (by omega), if_neg e1]
      by_cases e2 : x = i
      · subst e2
        rw [if_pos rfl, if_pos (by omega), if_pos rfl]
      · rw [if_neg (by omega), if_neg (by omega), if_neg e2]; exact hx1
theorem CP.flat (l : List (Int × Int)) : CP l (l.flatMap fun e => [I e.1, I e.2]) := by
  refine ⟨fun i hi => ?_, fun i hi => ?_⟩
  · rw [(pairs_get hi).1, gP_get hi]
  · rw [(pairs_get hi).2.1, gP_get hi]
theorem CP.take (h : CP l cells) : cells.take (l.length * 2) = l.flatMap fun e => [I e.1, I e.2] := by
  have hlen : l.length * 2 ≤ cells.length := by
    cases e : l.length with
    | zero => omega
    | succ n => have := h.len (i := n) (by omega); omega
  refine List.ext_getElem? fun j => ?_
  by_cases hj : j < l.length * 2
  · rw [List.getElem?_take, if_pos hj]
    have hi : j / 2 < l.length := by omega
    have hp := pairs_get hi
    rw [← gP_get hi] at hp
    by_cases e : j = j / 2 * 2
    · rw [e, h.at0 _ hi, hp.1]
    · have e' : j = j / 2 * 2 + 1 := by omega
      rw [e', h.at1 _ hi, hp.2.1]
  · rw [List.getElem?_eq_none (by rw [List.length_take]; omega), List.getElem?_eq_none (by rw [pairs_len]; omega)]
theorem CP.push (a : Int × Int) (l : List (Int × Int)) : (l.flatMap fun e => [I e.1, I e.2]) ++ [I a.1, I a.2] = (l ++ [a]).flatMap fun e => [I e.1, I e.2] := by simp
theorem CP.init (h : CP l cells) (n : Nat) : CP (l.take n) cells := by
  have e : ∀ i, i < (l.take n).length → gP (l.take n) i = gP l i := fun i hi => by
    rw [List.length_take] at hi
    simp [gP, List.getD_eq_getElem?_getD, List.getElem?_take, show i < n by omega]
  refine ⟨fun i hi => ?_, fun i hi => ?_⟩
  · rw [e i hi]; exact h.at0 i (by rw [List.length_take] at hi; omega)
  · rw [e i hi]; exact h.at1 i (by rw [List.length_take] at hi; omega)
end
theorem less_at {h : Heap} {P top i k : Nat} {l : List (Int × Int)} {cells : List AV} (hP : h P = some (.arr 2 113 cells top)) (hc : CP l cells) (ht : l.length ≤ top) (hi : i < l.length) (hk : k < l.length) (hb : top ≤ 1000000) :
    RetAt Try.prog w0 135 [.ref P 0 l.length top, I i, I k] (B (lessP (gP l i) (gP l k))) h := by
  refine .of ?_
  have a0 := hc.get0 hi
  have a1 := hc.get1 hi
  have a2 := hc.len hi
  have b0 := hc.get0 hk
  have b1 := hc.get1 hk
  have b2 := hc.len hk
  have a3 : i * 2 < cells.length := by omega
  have b3 : k * 2 < cells.length := by omega
  refine w_enter Try.func135 rfl Try.ntmps135 (ts := [6]) rfl (by simp) (by kernel_rfl) ?_
  clear hc
  by_cases e : (gP l i).1 = (gP l k).1
  · repeat' (first
      | (with_reducible refine awp_skip ?_)
      | (with_reducible refine then_any ?_)
      | (with_reducible refine then_ret ?_)
      | (with_reducible refine then_exit ?_)
      | (with_reducible refine inBlock_normal ?_)
      | (with_reducible refine inBlock_ret ?_)
      | (with_reducible refine inBlock_hit ?_)
      | (with_reducible refine inBlock_miss (by decide) ?_)
      | (with_reducible refine awp_ret ?_)
      | (with_reducible refine awp_exit ?_)
      | (with_reducible refine post_ret ?_)
      | (with_reducible refine post_normal ?_)
      | (with_reducible refine awp_block ?_)
      | (with_reducible refine awp_scope_ret ?_)
      | (with_reducible refine awp_label ?_)
      | (with_reducible refine v_reg [] (fun K hK => ?_))
      | (with_reducible refine v_reg1 [] (fun K hK => ?_))
      | (with_reducible refine v_draw mixed [] [] (by kernel_rfl) (fun K hK => ?_))
      | (with_reducible refine v_draw1 mixed [] [] (by kernel_rfl) (fun K hK => ?_))
      | (with_reducible refine ev_nil (hK _ _ ?_); clear hK K)
      | (with_reducible refine ed_nil (hK _ _ ?_); clear hK K)
      | ((first | with_reducible refine ev_cons (fun K' hK' => ?_) | with_reducible refine ed_cons (fun K' hK' => ?_) | (with_reducible refine ev_id ?_; refine ev_guard rfl (fun K' hK' => ?_)) | (with_reducible refine ed_id ?_; refine ed_guard rfl (fun K' hK' => ?_))); simp [hP, hi, hk, a0, a1, a2, b0, b1, b2, a3, b3, e]; repeat' (first | (with_reducible refine hK' _ _ ?_; clear hK' K') | (with_reducible refine And.intro ?_ ?_) | (with_reducible intro hg) | (clear hK' K'; omega)))
      | (with_reducible refine w_cond (fun A B hA hB => ?_); simp [hP, hi, hk, a0, a1, a2, b0, b1, b2, a3, b3, e]; repeat' (first | (with_reducible refine hA ?_; clear hA hB A B) | (with_reducible refine hB ?_; clear hA hB A B) | (with_reducible refine And.intro ?_ ?_) | (with_reducible intro hc)))
      | (with_reducible refine awp_seq ?_))
    exact ⟨by simp [lessP, e], .refl _⟩
  · repeat' (first
      | (with_reducible refine awp_skip ?_)
      | (with_reducible refine then_any ?_)
      | (with_reducible refine then_ret ?_)
      | (with_reducible refine then_exit ?_)
      | (with_reducible refine inBlock_normal ?_)
      | (with_reducible refine inBlock_ret ?_)
      | (with_reducible refine inBlock_hit ?_)
      | (with_reducible refine inBlock_miss (by decide) ?_)
      | (with_reducible refine awp_ret ?_)
      | (with_reducible refine awp_exit ?_)
      | (with_reducible refine post_ret ?_)
      | (with_reducible refine post_normal ?_)
      | (with_reducible refine awp_block ?_)
      | (with_reducible refine awp_scope_ret ?_)
      | (with_reducible refine awp_label ?_)
      | (with_reducible refine v_reg [] (fun K hK => ?_))
      | (with_reducible refine v_reg1 [] (fun K hK => ?_))
      | (with_reducible refine v_draw mixed [] [] (by kernel_rfl) (fun K hK => ?_))
      | (with_reducible refine v_draw1 mixed [] [] (by kernel_rfl) (fun K hK => ?_))
      | (with_reducible refine ev_nil (hK _ _ ?_); clear hK K)
      | (with_reducible refine ed_nil (hK _ _ ?_); clear hK K)
      | ((first | with_reducible refine ev_cons (fun K' hK' => ?_) | with_reducible refine ed_cons (fun K' hK' => ?_) | (with_reducible refine ev_id ?_; refine ev_guard rfl (fun K' hK' => ?_)) | (with_reducible refine ed_id ?_; refine ed_guard rfl (fun K' hK' => ?_))); simp [hP, hi, hk, a0, a1, a2, b0, b1, b2, a3, b3, e]; repeat' (first | (with_reducible refine hK' _ _ ?_; clear hK' K') | (with_reducible refine And.intro ?_ ?_) | (with_reducible intro hg) | (clear hK' K'; omega)))
      | (with_reducible refine w_cond (fun A B hA hB => ?_); simp [hP, hi, hk, a0, a1, a2, b0, b1, b2, a3, b3, e]; repeat' (first | (with_reducible refine hA ?_; clear hA hB A B) | (with_reducible refine hB ?_; clear hA hB A B) | (with_reducible refine And.intro ?_ ?_) | (with_reducible intro hc)))
      | (with_reducible refine awp_seq ?_))
    exact ⟨by simp [lessP, e], .refl _⟩
def swapC (l : List (Int × Int)) (cells : List AV) (i k : Nat) : List AV := (((cells.set (i * 2) (I (gP l k).1)).set (i * 2 + 1) (I (gP l k).2)).set (k * 2) (I (gP l i).1)).set (k * 2 + 1) (I (gP l i).2)
theorem swap_at {h : Heap} {P top i k : Nat} {l : List (Int × Int)} {cells : List AV} (hP : h P = some (.arr 2 113 cells top)) (hc : CP l cells) (ht : l.length ≤ top) (hi : i < l.length) (hk : k < l.length) (hb : top ≤ 1000000) {K : AV → Heap → Prop}
    (kk : K (.tup []) (upd h P (some (.arr 2 113 (swapC l cells i k) top)))) :
    ACalls Try.prog w0 136 [.ref P 0 l.length top, I i, I k] h K := by
  refine (?_ : ACalls Try.prog w0 136 [.ref P 0 l.length top, I i, I k] h (fun v h' => v = .tup [] ∧ h' = upd h P (some (.arr 2 113 (swapC l cells i k) top)))).drop ?_
  rotate_left
  · rintro v h' ⟨rfl, rfl⟩
    exact ⟨_, .refl _, kk⟩
  have a2 := hc.len hi
  have b2 := hc.len hk
  have pi := hc.pair hi
  have pk := hc.pair hk
  have a3 : i * 2 < cells.length := by omega
  have b3 : k * 2 < cells.length := by omega
  refine w_enter Try.func136 rfl Try.ntmps136 (ts := []) rfl (by simp) (by kernel_rfl) ?_
  repeat' (first
    | (with_reducible refine awp_skip ?_)
    | (with_reducible refine then_any ?_)
    | (with_reducible refine then_ret ?_)
    | (with_reducible refine then_exit ?_)
    | (with_reducible refine inBlock_normal ?_)
    | (with_reducible refine inBlock_ret ?_)
    | (with_reducible refine inBlock_hit ?_)
    | (with_reducible refine inBlock_miss (by decide) ?_)
    | (with_reducible refine awp_ret ?_)
    | (with_reducible refine awp_exit ?_)
    | (with_reducible refine post_ret ?_)
    | (with_reducible refine post_normal ?_)
    | (with_reducible refine awp_block ?_)
    | (with_reducible refine awp_scope_ret ?_)
    | (with_reducible refine awp_label ?_)
    | (with_reducible refine v_reg [] (fun K hK => ?_))
    | (with_reducible refine v_reg1 [] (fun K hK => ?_))
    | (with_reducible refine v_draw mixed [] [] (by kernel_rfl) (fun K hK => ?_))
    | (with_reducible refine v_draw1 mixed [] [] (by kernel_rfl) (fun K hK => ?_))
    | (with_reducible refine ev_nil (hK _ _ ?_); clear hK K)
    | (with_reducible refine ed_nil (hK _ _ ?_); clear hK K)
    | ((first | with_reducible refine ev_cons (fun K' hK' => ?_) | with_reducible refine ed_cons (fun K' hK' => ?_) | (with_reducible refine ev_id ?_; refine ev_guard rfl (fun K' hK' => ?_)) | (with_reducible refine ed_id ?_; refine ed_guard rfl (fun K' hK' => ?_))); simp [hP, hi, hk, pi, pk, a2, b2, a3, b3]; repeat' (first | (with_reducible refine hK' _ _ ?_; clear hK' K') | (with_reducible refine And.intro ?_ ?_) | (with_reducible intro hg) | (clear hK' K'; omega)))
    | (with_reducible refine w_cond (fun A B hA hB => ?_); simp [hP, hi, hk, pi, pk, a2, b2, a3, b3]; repeat' (first | (with_reducible refine hA ?_; clear hA hB A B) | (with_reducible refine hB ?_; clear hA hB A B) | (with_reducible refine And.intro ?_ ?_) | (with_reducible intro hc)))
    | (with_reducible refine awp_seq ?_))
  exact ⟨by simp [resA], rfl⟩
theorem len_at {h : Heap} {P top n : Nat} : RetAt Try.prog w0 107 [.ref P 0 n top] (I n) h := by
  refine .of ?_
  refine w_enter Try.func107 rfl Try.ntmps107 (ts := [2]) rfl (by simp) (by kernel_rfl) ?_
  repeat' (first
    | (with_reducible refine awp_skip ?_)
    | (with_reducible refine then_any ?_)
    | (with_reducible refine then_ret ?_)
    | (with_reducible refine then_exit ?_)
    | (with_reducible refine inBlock_normal ?_)
    | (with_reducible refine inBlock_ret ?_)
    | (with_reducible refine inBlock_hit ?_)
    | (with_reducible refine inBlock_miss (by decide) ?_)
    | (with_reducible refine awp_ret ?_)
    | (with_reducible refine awp_exit ?_)
    | (with_reducible refine post_ret ?_)
    | (with_reducible refine post_normal ?_)
    | (with_reducible refine awp_block ?_)
    | (with_reducible refine awp_scope_ret ?_)
    | (with_reducible refine awp_label ?_)
    | (with_reducible refine v_reg [] (fun K hK => ?_))
    | (with_reducible refine v_reg1 [] (fun K hK => ?_))
    | (with_reducible refine v_draw mixed [] [] (by kernel_rfl) (fun K hK => ?_))
    | (with_reducible refine v_draw1 mixed [] [] (by kernel_rfl) (fun K hK => ?_))
    | (with_reducible refine ev_nil (hK _ _ ?_); clear hK K)
    | (with_reducible refine ed_nil (hK _ _ ?_); clear hK K)
    | ((first | with_reducible refine ev_cons (fun K' hK' => ?_) | with_reducible refine ed_cons (fun K' hK' => ?_) | (with_reducible refine ev_id ?_; refine ev_guard rfl (fun K' hK' => ?_)) | (with_reducible refine ed_id ?_; refine ed_guard rfl (fun K' hK' => ?_))); simp; repeat' (first | (with_reducible refine hK' _ _ ?_; clear hK' K') | (with_reducible refine And.intro ?_ ?_) | (with_reducible intro hg) | (clear hK' K'; omega)))
    | (with_reducible refine w_cond (fun A B hA hB => ?_); simp; repeat' (first | (with_reducible refine hA ?_; clear hA hB A B) | (with_reducible refine hB ?_; clear hA hB A B) | (with_reducible refine And.intro ?_ ?_) | (with_reducible intro hc)))
    | (with_reducible refine awp_seq ?_))
  exact ⟨by simp, .refl _⟩
theorem len_nil : Ret Try.prog w0 107 [.sl [] 0] (I 0) := by
  intro h
  refine w_enter Try.func107 rfl Try.ntmps107 (ts := [2]) rfl (by simp) (by kernel_rfl) ?_
  repeat' (first
    | (with_reducible refine awp_skip ?_)
    | (with_reducible refine then_any ?_)
    | (with_reducible refine then_ret ?_)
    | (with_reducible refine then_exit ?_)
    | (with_reducible refine inBlock_normal ?_)
    | (with_reducible refine inBlock_ret ?_)
    | (with_reducible refine inBlock_hit ?_)
    | (with_reducible refine inBlock_miss (by decide) ?_)
    | (with_reducible refine awp_ret ?_)
    | (with_reducible refine awp_exit ?_)
    | (with_reducible refine post_ret ?_)
    | (with_reducible refine post_normal ?_)
    | (with_reducible refine awp_block ?_)
    | (with_reducible refine awp_scope_ret ?_)
    | (with_reducible refine awp_label ?_)
    | (with_reducible refine v_reg [] (fun K hK => ?_))
    | (with_reducible refine v_reg1 [] (fun K hK => ?_))
    | (with_reducible refine v_draw mixed [] [] (by kernel_rfl) (fun K hK => ?_))
    | (with_reducible refine v_draw1 mixed [] [] (by kernel_rfl) (fun K hK => ?_))
    | (with_reducible refine ev_nil (hK _ _ ?_); clear hK K)
    | (with_reducible refine ed_nil (hK _ _ ?_); clear hK K)
    | ((first | with_reducible refine ev_cons (fun K' hK' => ?_) | with_reducible refine ed_cons (fun K' hK' => ?_) | (with_reducible refine ev_id ?_; refine ev_guard rfl (fun K' hK' => ?_)) | (with_reducible refine ed_id ?_; refine ed_guard rfl (fun K' hK' => ?_))); simp; repeat' (first | (with_reducible refine hK' _ _ ?_; clear hK' K') | (with_reducible refine And.intro ?_ ?_) | (with_reducible intro hg) | (clear hK' K'; omega)))
    | (with_reducible refine w_cond (fun A B hA hB => ?_); simp; repeat' (first | (with_reducible refine hA ?_; clear hA hB A B) | (with_reducible refine hB ?_; clear hA hB A B) | (with_reducible refine And.intro ?_ ?_) | (with_reducible intro hc)))
    | (with_reducible refine awp_seq ?_))
  exact ⟨by simp, .refl _⟩
end Go.Am
