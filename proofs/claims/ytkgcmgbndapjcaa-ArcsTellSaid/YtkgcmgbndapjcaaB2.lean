/- Contracts: the forest of what is joined. -/
/- Contracts: graphs, their components and ranks. -/
/- Contracts: the parts of a graph. -/
/- Contracts: lists of sets compared; the calls that the document of layer 3 fixes. -/
import Derived.Test.YtkgcmgbndapjcaaB1
namespace Go.Am
open Go Go.Proofs
set_option linter.unusedVariables false
set_option linter.unusedSimpArgs false
variable {w0 : World}
attribute [local irreducible] AWP ACalls
attribute [local congr] acalls_congr

/-- The root of a vertex. -/
def rootN (up : List Nat) (v : Nat) : Nat := if up.getD v v < v then rootN up (up.getD v v) else v
termination_by v

/-- Parents are no greater than their children. -/
structure Par (up : List Nat) (n : Nat) : Prop where
  len : up.length = n
  le : ∀ (v : Nat) (h : v < up.length), up[v] ≤ v

theorem rootN_le (up : List Nat) (v : Nat) : rootN up v ≤ v := by
  induction v using Nat.strongRecOn with
  | _ v ih =>
    rw [rootN]
    split
    · rename_i h; exact Nat.le_trans (ih _ h) (by omega)
    · omega

theorem rootN_root (up : List Nat) (v : Nat) : rootN up (rootN up v) = rootN up v := by
  induction v using Nat.strongRecOn with
  | _ v ih =>
    by_cases h : up.getD v v < v
    · have e : rootN up v = rootN up (up.getD v v) := by rw [rootN, if_pos h]
      rw [e]; exact ih _ h
    · have e : rootN up v = v := by rw [rootN, if_neg h]
      rw [e, e]

theorem rootN_get {up : List Nat} {v : Nat} (h : v < up.length) : rootN up v = if up[v] < v then rootN up up[v] else v := by
  rw [rootN]
  simp [h]

theorem rootN_short {up : List Nat} {n v : Nat} (p : Par up n) (hv : v < up.length) (hp : up[v] < up.length) : 
    Par (up.set v up[up[v]]) n ∧ ∀ w, w < n → rootN (up.set v up[up[v]]) w = rootN up w := by
  have h1 := p.le v hv
  have h2 := p.le _ hp
  refine ⟨⟨by simp [p.len], fun w hw => ?_⟩, fun w => ?_⟩
  · rw [List.getElem_set]
    split
    · omega
    · exact p.le w (by simpa using hw)
  · induction w using Nat.strongRecOn with
    | _ w ih =>
      intro hw
      have hw' : w < up.length := by rw [p.len]; exact hw
      rw [rootN_get (by simpa using hw'), rootN_get hw', List.getElem_set]
      have hle := p.le w hw'
      by_cases e : v = w
      · subst e
        rw [if_pos rfl]
        by_cases hlt : up[v] < v
        · rw [if_pos (by omega), if_pos hlt, ih _ (by omega) (by omega), rootN_get hp]
          split
          · rfl
          · have : up[up[v]] = up[v] := by omega
            rw [this, rootN_get hp, if_neg (by omega)]
        · have e1 : up[v] = v := by omega
          have e2 : up[up[v]] = v := by
            have : ∀ x (h : x < up.length), x = v → up[x] = up[v] := by rintro x h rfl; rfl
            rw [this _ hp e1, e1]
          rw [if_neg (by omega), if_neg (by omega)]
      · rw [if_neg e]
        split
        · exact ih _ (by omega) (by omega)
        · rfl

theorem rootN_join {up : List Nat} {n a b : Nat} (p : Par up n) (ha : a < n) (hb : b < a) (ra : rootN up a = a) (rb : rootN up b = b) :
    Par (up.set a b) n ∧ ∀ w, w < n → rootN (up.set a b) w = if rootN up w = a then b else rootN up w := by
  refine ⟨⟨by simp [p.len], fun w hw => ?_⟩, fun w => ?_⟩
  · rw [List.getElem_set]
    split
    · omega
    · exact p.le w (by simpa using hw)
  · induction w using Nat.strongRecOn with
    | _ w ih =>
      intro hw
      have hw' : w < up.length := by rw [p.len]; exact hw
      rw [rootN_get (by simpa using hw'), List.getElem_set]
      by_cases e : a = w
      · subst e
        rw [if_pos rfl, if_pos hb, ih b hb (by omega), rb, ra, if_pos rfl, if_neg (by omega)]
      · rw [if_neg e, rootN_get hw']
        split
        · exact ih _ (by omega) (by omega)
        · rw [if_neg (fun h => e h.symm)]

/-- The forest's blocks: its parents in R, itself in F. -/
def fst (H : Heap) (F R : Nat) (up : List Nat) (j : Nat) : Heap :=
  upd (upd H R (some (.arr 1 3 (up.map fun x : Nat => I (x : Int)) up.length))) F (some (.box [.ref R 0 up.length up.length, I (j : Int)]))

theorem fst_F (H : Heap) (F R : Nat) (up : List Nat) (j : Nat) : fst H F R up j F = some (.box [.ref R 0 up.length up.length, I (j : Int)]) := by simp [fst]
theorem fst_R {F R : Nat} (h : R ≠ F) (H : Heap) (up : List Nat) (j : Nat) : fst H F R up j R = some (.arr 1 3 (up.map fun x : Nat => I (x : Int)) up.length) := by simp [fst, h]
theorem fst_set {F R : Nat} (h : R ≠ F) (H : Heap) (up : List Nat) (j a b : Nat) :
    upd (fst H F R up j) R (some (.arr 1 3 ((up.map fun x : Nat => I (x : Int)).set a (I (b : Int))) up.length)) = fst H F R (up.set a b) j := by
  unfold fst
  rw [upd_comm _ _ _ (fun e => h e.symm), upd_upd]
  simp [List.map_set]
theorem fst_box (H : Heap) (F R : Nat) (up : List Nat) (j k : Nat) : upd (fst H F R up j) F (some (.box [.ref R 0 up.length up.length, I (k : Int)])) = fst H F R up k := by
  unfold fst
  rw [upd_upd]
theorem fst_inc (H : Heap) (F R : Nat) (up : List Nat) (j : Nat) {n : Nat} (hn : n = up.length) : upd (fst H F R up j) F (some (.box [.ref R 0 n n, .sc (.int .i64 ((j : Int) + 1))])) = fst H F R up (j + 1) := by
  subst hn
  exact fst_box H F R up j (j + 1)
theorem fst_upd {F R r : Nat} (h1 : r ≠ F) (h2 : r ≠ R) (H : Heap) (up : List Nat) (j : Nat) (x : Option Blk) : upd (fst H F R up j) r x = fst (upd H r x) F R up j := by
  unfold fst
  rw [upd_comm _ _ _ (fun e => h1 e.symm), upd_comm _ _ _ (fun e => h2 e.symm)]
theorem fst_none {H : Heap} {F R r : Nat} {up : List Nat} {j : Nat} (h : fst H F R up j r = none) : r ≠ F ∧ r ≠ R ∧ H r = none := by
  unfold fst at h
  by_cases e1 : r = F
  · subst e1; simp [upd_same] at h
  · rw [upd_ne _ _ _ e1] at h
    by_cases e2 : r = R
    · subst e2; simp [upd_same] at h
    · rw [upd_ne _ _ _ e2] at h; exact ⟨e1, e2, h⟩
theorem fst_at {H : Heap} {F R r : Nat} (h1 : r ≠ F) (h2 : r ≠ R) (up : List Nat) (j : Nat) : fst H F R up j r = H r := by
  unfold fst; rw [upd_ne _ _ _ h1, upd_ne _ _ _ h2]
theorem sub_fst {H : Heap} {F R : Nat} (hF : H F = none) (hR : H R = none) (up : List Nat) (j : Nat) : Sub H (fst H F R up j) := ((Sub.refl H).upd hR _).upd hF _
theorem rootN_up {up : List Nat} {n v : Nat} (p : Par up n) (hv : v < up.length) : rootN up up[v] = rootN up v := by
  have := p.le v hv
  rw [rootN_get hv]
  split
  · rfl
  · have e : up[v] = v := by omega
    rw [e, rootN_get hv, if_neg (by omega)]

end Go.Am

namespace Go.Am
open Go Go.Proofs
set_option linter.unusedVariables false
set_option linter.unusedSimpArgs false
variable {w0 : World}
attribute [local irreducible] AWP ACalls
attribute [local congr] acalls_congr

def edgeOk (n : Int) (e : Int × Int) : Bool := decide (0 ≤ e.1) && decide (0 ≤ e.2) && decide (e.1 < n) && decide (e.2 < n)
/-- A graph, of few vertices and edges. -/
def validG (n : Int) (es : List (Int × Int)) : Bool := decide (1 ≤ n) && decide (n ≤ 64) && decide (es.length ≤ 4096) && es.all (edgeOk n)

/-- Components' least vertices, and how many edges joined something. -/
def stepC (s : (Nat → Nat) × Nat) (e : Int × Int) : (Nat → Nat) × Nat :=
  let a := s.1 e.1.toNat
  let b := s.1 e.2.toNat
  (fun w => if s.1 w = max a b then min a b else s.1 w, if a = b then s.2 else s.2 + 1)
def compJ (es : List (Int × Int)) : (Nat → Nat) × Nat := es.foldl stepC (id, 0)

theorem compJ_take {es : List (Int × Int)} {k : Nat} (h : k < es.length) : compJ (es.take (k + 1)) = stepC (compJ (es.take k)) es[k] := by
  unfold compJ
  rw [List.take_succ_eq_append_getElem h, List.foldl_append]
  rfl
theorem compJ_le (es : List (Int × Int)) : (compJ es).2 ≤ es.length := by
  unfold compJ
  have : ∀ (es : List (Int × Int)) (s : (Nat → Nat) × Nat), (es.foldl stepC s).2 ≤ s.2 + es.length := by
    intro es
    induction es with
    | nil => intro s; simp
    | cons e es ih =>
      intro s
      have := ih (stepC s e)
      simp only [List.foldl_cons, List.length_cons]
      have h2 : (stepC s e).2 ≤ s.2 + 1 := by simp only [stepC]; split <;> omega
      omega
  simpa using this es (id, 0)

/-- The cells of pairs. -/
theorem pairs_get {es : List (Int × Int)} {k : Nat} (h : k < es.length) : (es.flatMap fun e => [I e.1, I e.2])[k * 2]? = some (I es[k].1) ∧ (es.flatMap fun e => [I e.1, I e.2])[k * 2 + 1]? = some (I es[k].2) ∧
    ((es.flatMap fun e => [I e.1, I e.2]).drop (k * 2)).take 2 = [I es[k].1, I es[k].2] := by
  induction es generalizing k with
  | nil => simp at h
  | cons e es ih =>
    cases k with
    | zero => simp
    | succ k =>
      have := ih (k := k) (by simpa using h)
      simp only [List.flatMap_cons, List.getElem_cons_succ, Nat.succ_mul]
      refine ⟨?_, ?_, ?_⟩
      · have := this.1; simpa using this
      · have := this.2.1; simpa [Nat.add_right_comm] using this
      · have := this.2.2; simpa using this
theorem pairs_len (es : List (Int × Int)) : (es.flatMap fun e => [I e.1, I e.2]).length = es.length * 2 := by
  induction es with
  | nil => rfl
  | cons e es ih => simp [ih, Nat.succ_mul]

theorem sum2 (es : List (Int × Int)) : (es.map fun _ => 2).sum = es.length * 2 := by
  induction es with
  | nil => rfl
  | cons e es ih => simp [ih, Nat.succ_mul]; omega

/-- The forest of a graph lies in two blocks of its own; what is no graph has none. -/
def ForestAt (n : Int) (es : List (Int × Int)) (H : Heap) (v : AV) (H' : Heap) : Prop :=
  (validG n es = false ∧ v = .sc (.pointer none) ∧ Sub H H') ∨
  (validG n es = true ∧ ∃ F R up, R ≠ F ∧ H F = none ∧ H R = none ∧ Par up n.toNat ∧ (∀ w, w < n.toNat → rootN up w = (compJ es).1 w) ∧ v = .ptr F 0 0 ∧ Sub (fst H F R up (compJ es).2) H')

/-- The components' least vertices. -/
def compsL (n : Int) (es : List (Int × Int)) : List Int := if validG n es then (List.range n.toNat).map fun w => ((compJ es).1 w : Int) else []
def okE (n : Int) (es : List (Int × Int)) : Int := if validG n es then 0 else 1

theorem valid_nat {n : Int} {es : List (Int × Int)} (h : validG n es = true) : ∃ m : Nat, n = m ∧ 1 ≤ m ∧ m ≤ 64 ∧ es.length ≤ 4096 := by
  simp only [validG, Bool.and_eq_true, decide_eq_true_eq] at h
  exact ⟨n.toNat, by omega, by omega, by omega, by omega⟩

end Go.Am

namespace Go.Am
open Go Go.Proofs
set_option linter.unusedVariables false
set_option linter.unusedSimpArgs false
variable {w0 : World}
attribute [local irreducible] AWP ACalls
attribute [local congr] acalls_congr

theorem compJ_spec (es : List (Int × Int)) : ∀ w, (compJ es).1 w ≤ w ∧ (compJ es).1 ((compJ es).1 w) = (compJ es).1 w := by
  unfold compJ
  have : ∀ (es : List (Int × Int)) (s : (Nat → Nat) × Nat), (∀ w, s.1 w ≤ w ∧ s.1 (s.1 w) = s.1 w) → ∀ w, (es.foldl stepC s).1 w ≤ w ∧ (es.foldl stepC s).1 ((es.foldl stepC s).1 w) = (es.foldl stepC s).1 w := by
    intro es
    induction es with
    | nil => intro s h; exact h
    | cons e es ih =>
      intro s h
      refine ih _ fun w => ?_
      simp only [stepC]
      have ha := (h e.1.toNat).2
      have hb := (h e.2.toNat).2
      generalize s.1 e.1.toNat = a at ha ⊢
      generalize s.1 e.2.toNat = b at hb ⊢
      have hm : s.1 (min a b) = min a b := by
        rcases Nat.le_total a b with h | h
        · rw [Nat.min_eq_left h]; exact ha
        · rw [Nat.min_eq_right h]; exact hb
      have hw := h w
      by_cases e1 : s.1 w = max a b
      · rw [if_pos e1, hm]
        refine ⟨by omega, by split <;> rfl⟩
      · rw [if_neg e1, hw.2, if_neg e1]
        exact ⟨hw.1, rfl⟩
  exact this es (id, 0) fun w => ⟨Nat.le_refl _, rfl⟩

def rootsK (c : Nat → Nat) (k : Nat) : List Nat := (List.range k).filter fun r => c r = r
def partK (c : Nat → Nat) (k r : Nat) : List Int := ((List.range k).filter fun w => c w = r).map fun w : Nat => (w : Int)
/-- The parts, of the first k vertices. -/
def partsK (c : Nat → Nat) (k : Nat) : List (List Int) := (rootsK c k).map (partK c k)

theorem rootsK_succ (c : Nat → Nat) (k : Nat) : rootsK c (k + 1) = rootsK c k ++ if c k = k then [k] else [] := by
  simp only [rootsK, List.range_succ, List.filter_append, List.filter_cons, List.filter_nil]
  split <;> simp_all
theorem partK_succ (c : Nat → Nat) (k r : Nat) : partK c (k + 1) r = partK c k r ++ if c k = r then [(k : Int)] else [] := by
  simp only [partK, List.range_succ, List.filter_append, List.filter_cons, List.filter_nil, List.map_append]
  split <;> simp_all
theorem mem_rootsK {c : Nat → Nat} {k r : Nat} : r ∈ rootsK c k ↔ r < k ∧ c r = r := by simp [rootsK]
theorem rootsK_nodup (c : Nat → Nat) (k : Nat) : (rootsK c k).Nodup := List.Pairwise.filter _ List.nodup_range
theorem partsK_length (c : Nat → Nat) (k : Nat) : (partsK c k).length = (rootsK c k).length := by simp [partsK]
theorem rootsK_le (c : Nat → Nat) (k : Nat) : (rootsK c k).length ≤ k := by
  have := List.length_filter_le (fun r => decide (c r = r)) (List.range k)
  simpa [rootsK] using this
theorem partK_le (c : Nat → Nat) (k r : Nat) : (partK c k r).length ≤ k := by
  have := List.length_filter_le (fun w => decide (c w = r)) (List.range k)
  simpa [partK] using this

theorem partsK_root {c : Nat → Nat} {k : Nat} (hle : ∀ w, c w ≤ w) (h : c k = k) : partsK c (k + 1) = (partsK c k ++ [[]]).set (rootsK c k).length [(k : Int)] := by
  have h0 : partK c k k = [] := by
    simp only [partK, List.map_eq_nil_iff, List.filter_eq_nil_iff, List.mem_range, decide_eq_true_eq]
    intro w hw
    have := hle w
    omega
  unfold partsK
  rw [rootsK_succ, if_pos h, List.map_append]
  have : (rootsK c k).map (partK c (k + 1)) = (rootsK c k).map (partK c k) := by
    apply List.map_congr_left
    intro r hr
    have := mem_rootsK.1 hr
    rw [partK_succ, if_neg (by omega), List.append_nil]
  rw [this, List.set_append_right _ _ (by simp)]
  simp [partK_succ, h0, h]

theorem partsK_more {c : Nat → Nat} {k j r : Nat} (hj : (rootsK c k)[j]? = some r) (h : c k = r) (hr : r ≠ k) : partsK c (k + 1) = (partsK c k).set j (partK c k r ++ [(k : Int)]) := by
  unfold partsK
  rw [rootsK_succ, if_neg (by omega), List.append_nil]
  refine List.ext_getElem? fun i => ?_
  have hjl := (List.getElem?_eq_some_iff.1 hj).1
  rw [List.getElem?_map, List.getElem?_set]
  by_cases e : j = i
  · subst e
    rw [hj]
    simp [partK_succ, h, hjl]
  · rw [if_neg e, List.getElem?_map]
    cases hi : (rootsK c k)[i]? with
    | none => rfl
    | some q =>
      have hq : q ≠ r := by
        intro e2
        subst e2
        have := (rootsK_nodup c k)
        obtain ⟨h1, h2⟩ := List.getElem?_eq_some_iff.1 hi
        obtain ⟨h3, h4⟩ := List.getElem?_eq_some_iff.1 hj
        exact e ((List.getElem_inj this).1 (h4.trans h2.symm))
      simp only [Option.map_some, partK_succ]
      rw [if_neg (by omega), List.append_nil]

/-- The parts of a graph. -/
def partsL (n : Int) (es : List (Int × Int)) : List (List Int) := if validG n es then partsK (compJ es).1 n.toNat else []

end Go.Am

namespace Go.Am
open Go Go.Proofs
set_option linter.unusedVariables false
set_option linter.unusedSimpArgs false
variable {w0 : World}
attribute [local irreducible] AWP ACalls
attribute [local congr] acalls_congr

theorem c1 : compsL 3 [(0, 2)] = [0, 1, 0] := by rfl
theorem c2 : okE 3 [(0, 2)] = 0 := by rfl
theorem c3 : partsL 3 [(0, 2)] = [[0, 2], [1]] := by rfl
theorem c4 : okE 3 [(0, 3)] = 1 := by rfl
theorem c5 : okE 0 [] = 1 := by rfl
theorem c6 : (if validG 3 [(0, 2)] then ((compJ [(0, 2)]).2 : Int) else -1) = 1 := by rfl
theorem c7 : (if validG 3 [(0, 2), (2, 0)] then ((compJ [(0, 2), (2, 0)]).2 : Int) else -1) = 1 := by rfl
theorem c8 : (if validG 1 [(0, 0)] then ((compJ [(0, 0)]).2 : Int) else -1) = 0 := by rfl
theorem c9 : (if validG 65 [] then ((compJ []).2 : Int) else -1) = -1 := by rfl
theorem c10 : validG 3 [(0, 3)] = false := by rfl
theorem c11 : validG 0 [] = false := by rfl

end Go.Am
