/- Plain law: arborescences are grown, one arc at a time. -/
import Derived.Test.YtkgcmgbndapjcaaM18
namespace Go.Am
set_option linter.unusedVariables false
set_option linter.unusedSimpArgs false

structure GSt where
  gone : Int → Bool
  has : Int → Bool
  out : List Int

section
variable (arcs : List (Int × Int)) (n : Nat) (root : Int) (others : Nat)
/-- May an arc be taken? -/
noncomputable def okG (s : GSt) (i : Int) : Bool := !s.gone i && s.has (tlA arcs i) && !s.has (hdA arcs i) && enoughB arcs n (setF s.gone i true) root others
def takeG (s : GSt) (i : Int) : GSt := ⟨setF s.gone i true, setF s.has (hdA arcs i) true, s.out ++ [i]⟩
noncomputable def stepG (s : GSt) : GSt := match (upto arcs.length).find? (okG arcs n root others s) with
  | some i => takeG arcs s i
  | none => s
def startG (gone : Int → Bool) : GSt := ⟨gone, setF (fun _ => false) root true, []⟩
noncomputable def iterG (gone : Int → Bool) : Nat → GSt
  | 0 => startG root gone
  | k + 1 => stepG arcs n root others (iterG gone k)
noncomputable def finG (gone : Int → Bool) : GSt := iterG arcs n root others gone (n - 1)
noncomputable def growL (gone : Int → Bool) : List Int := (upto arcs.length).filter fun i => decide (i ∈ (finG arcs n root others gone).out)

variable {arcs n root others}
theorem stepG_some {s : GSt} {i : Nat} (h : i < arcs.length) (hno : ∀ j : Int, 0 ≤ j → j < i → okG arcs n root others s j = false) (hi : okG arcs n root others s i = true) : stepG arcs n root others s = takeG arcs s i := by
  have : (upto arcs.length).find? (okG arcs n root others s) = some (i : Int) := by
    rw [List.find?_eq_some_iff_getElem]
    exact ⟨hi, i, by simpa using h, by rw [upto_get], fun j hj => by rw [upto_get]; simp [hno j (by omega) (by omega)]⟩
  rw [stepG, this]
theorem stepG_none {s : GSt} (hno : ∀ j : Int, 0 ≤ j → j < arcs.length → okG arcs n root others s j = false) : stepG arcs n root others s = s := by
  have : (upto arcs.length).find? (okG arcs n root others s) = none := by
    rw [List.find?_eq_none]
    intro x hx
    obtain ⟨a, b⟩ := mem_upto.1 hx
    simp [hno x a b]
  rw [stepG, this]
theorem stepG_cases (s : GSt) : (stepG arcs n root others s = s ∧ ∀ j : Int, 0 ≤ j → j < arcs.length → okG arcs n root others s j = false) ∨
    ∃ i : Int, 0 ≤ i ∧ i < arcs.length ∧ okG arcs n root others s i = true ∧ stepG arcs n root others s = takeG arcs s i := by
  unfold stepG
  cases h : (upto arcs.length).find? (okG arcs n root others s) with
  | none =>
    rw [List.find?_eq_none] at h
    exact .inl ⟨rfl, fun j a b => by simpa using h j (mem_upto.2 ⟨a, b⟩)⟩
  | some i =>
    have h1 := List.find?_some h
    have h2 := mem_upto.1 (List.mem_of_find?_eq_some h)
    exact .inr ⟨i, h2.1, h2.2, h1, rfl⟩
theorem iterG_stop {gone : Int → Bool} {k : Nat} (h : stepG arcs n root others (iterG arcs n root others gone k) = iterG arcs n root others gone k) (j : Nat) (hj : k ≤ j) : iterG arcs n root others gone j = iterG arcs n root others gone k := by
  induction j with
  | zero => have : k = 0 := by omega
            subst this; rfl
  | succ j ih =>
    by_cases e : k = j + 1
    · subst e; rfl
    · rw [iterG, ih (by omega), h]

/-- What holds all the way. -/
structure GInv (arcs : List (Int × Int)) (n : Nat) (root : Int) (gone : Int → Bool) (s : GSt) : Prop where
  rng : ∀ i ∈ s.out, 0 ≤ i ∧ i < arcs.length
  nodup : s.out.Nodup
  fresh : ∀ i ∈ s.out, gone i = false
  gone' : ∀ i, s.gone i = (gone i || decide (i ∈ s.out))
  root' : s.has root = true
  has' : ∀ u, s.has u = true → 0 ≤ u ∧ u < n
  cnt : (upto n).countP s.has = s.out.length + 1
  /-- One comes to all that one has, by arcs taken. -/
  reach : ∀ (p : Int → Prop), p root → (∀ i ∈ s.out, p (tlA arcs i) → p (hdA arcs i)) → ∀ u, s.has u = true → p u
  ends : ∀ i ∈ s.out, s.has (tlA arcs i) = true ∧ s.has (hdA arcs i) = true
  heads : (s.out.map (hdA arcs)).Nodup ∧ ∀ i ∈ s.out, hdA arcs i ≠ root

theorem countP_setF {n : Nat} {f : Int → Bool} {x : Int} (h0 : 0 ≤ x) (h1 : x < n) (hf : f x = false) : (upto n).countP (setF f x true) = (upto n).countP f + 1 := by
  have hx : x ∈ upto n := mem_upto.2 ⟨h0, h1⟩
  have hn := nodup_upto n
  generalize upto n = l at hx hn
  induction l with
  | nil => cases hx
  | cons a l ih =>
    obtain ⟨n1, n2⟩ := List.nodup_cons.1 hn
    rw [List.countP_cons, List.countP_cons]
    by_cases e : a = x
    · subst e
      have : l.countP (setF f a true) = l.countP f := List.countP_congr fun y hy => by rw [setF_ne _ _ (fun e => by subst e; exact n1 hy)]
      rw [this, setF_same, hf]
      simp
    · rw [setF_ne _ _ e, ih (by rcases List.mem_cons.1 hx with h | h; (· exact absurd h.symm e); (· exact h)) n2]
      omega
theorem GInv.start (N : NetA n arcs root) (gone : Int → Bool) : GInv arcs n root gone (startG root gone) where
  rng i hi := by cases hi
  nodup := .nil
  fresh i hi := by cases hi
  gone' i := by simp [startG]
  root' := setF_same (fun _ => false) root true
  has' u hu := by
    by_cases e : u = root
    · subst e; exact N.root
    · simp only [startG] at hu; rw [setF_ne _ _ e] at hu; cases hu
  cnt := by
    show (upto n).countP (setF (fun _ => false) root true) = 0 + 1
    rw [countP_setF N.root.1 N.root.2 rfl]
    simp
  reach p h0 _ u hu := by
    by_cases e : u = root
    · subst e; exact h0
    · simp only [startG] at hu; rw [setF_ne _ _ e] at hu; cases hu
  ends i hi := by cases hi
  heads := ⟨by simp [startG], fun i hi => by cases hi⟩
theorem GInv.take (N : NetA n arcs root) {gone : Int → Bool} {s : GSt} (h : GInv arcs n root gone s) {i : Int} (h0 : 0 ≤ i) (h1 : i < arcs.length) (hg : s.gone i = false) (ht : s.has (tlA arcs i) = true) (hh : s.has (hdA arcs i) = false) :
    GInv arcs n root gone (takeG arcs s i) := by
  have hgi := h.gone' i
  rw [hg] at hgi
  have hgi1 : gone i = false := by cases e : gone i; (· rfl); (· rw [e] at hgi; simp at hgi)
  have hgi2 : i ∉ s.out := fun hx => by simp [hx] at hgi
  obtain ⟨e1, e2⟩ := N.ends i h0 h1
  have hne : ∀ {u}, s.has u = true → u ≠ hdA arcs i := fun hu e => by rw [e, hh] at hu; cases hu
  have hup : ∀ {u}, s.has u = true → setF s.has (hdA arcs i) true u = true := fun hu => by rw [setF_ne _ _ (hne hu)]; exact hu
  refine ⟨fun j hj => ?_, ?_, fun j hj => ?_, fun j => ?_, hup h.root', fun u hu => ?_, ?_, fun p p0 ps u hu => ?_, fun j hj => ?_, ?_, fun j hj => ?_⟩
  · rcases List.mem_append.1 hj with hj | hj
    · exact h.rng j hj
    · simp at hj; subst hj; exact ⟨h0, h1⟩
  · simp only [takeG, List.nodup_append]
    exact ⟨h.nodup, by simp, fun a ha b hb e => by simp at hb; subst hb; subst e; exact hgi2 ha⟩
  · rcases List.mem_append.1 hj with hj | hj
    · exact h.fresh j hj
    · simp at hj; subst hj; exact hgi1
  · simp only [takeG, List.mem_append, List.mem_singleton]
    by_cases e : j = i
    · subst e; simp [setF_same]
    · rw [setF_ne _ _ e, h.gone' j]; simp [e]
  · by_cases e : u = hdA arcs i
    · rw [e]; exact e2
    · simp only [takeG] at hu; rw [setF_ne _ _ e] at hu; exact h.has' u hu
  · simp only [takeG, List.length_append, List.length_singleton]
    rw [countP_setF e2.1 e2.2 hh, h.cnt]
  · have hold := h.reach p p0 fun j hj => ps j (List.mem_append.2 (.inl hj))
    by_cases e : u = hdA arcs i
    · rw [e]; exact ps i (by simp [takeG]) (hold _ ht)
    · simp only [takeG] at hu; rw [setF_ne _ _ e] at hu; exact hold u hu
  · rcases List.mem_append.1 hj with hj | hj
    · exact ⟨hup (h.ends j hj).1, hup (h.ends j hj).2⟩
    · simp at hj; subst hj; exact ⟨hup ht, setF_same _ _ _⟩
  · simp only [takeG, List.map_append, List.map_cons, List.map_nil, List.nodup_append]
    refine ⟨h.heads.1, by simp, fun a ha b hb e => ?_⟩
    simp at hb
    obtain ⟨j, hj, rfl⟩ := List.mem_map.1 ha
    exact hne (h.ends j hj).2 (e.trans hb)
  · rcases List.mem_append.1 hj with hj | hj
    · exact h.heads.2 j hj
    · simp at hj; subst hj; exact fun e => (hne h.root') e.symm
theorem okG_iff {s : GSt} {i : Int} : okG arcs n root others s i = true ↔ s.gone i = false ∧ s.has (tlA arcs i) = true ∧ s.has (hdA arcs i) = false ∧ EnoughP arcs n (setF s.gone i true) root others := by
  simp only [okG, Bool.and_eq_true, Bool.not_eq_true', enoughB_true, and_assoc]
theorem GInv.iter (N : NetA n arcs root) (gone : Int → Bool) (k : Nat) : GInv arcs n root gone (iterG arcs n root others gone k) := by
  induction k with
  | zero => exact .start N gone
  | succ k ih =>
    rw [iterG]
    rcases stepG_cases (arcs := arcs) (n := n) (root := root) (others := others) (iterG arcs n root others gone k) with ⟨e, _⟩ | ⟨i, a, b, c, e⟩
    · rw [e]; exact ih
    · rw [e]
      obtain ⟨c1, c2, c3, _⟩ := okG_iff.1 c
      exact ih.take N a b c1 c2 c3
theorem GInv.fin (N : NetA n arcs root) (gone : Int → Bool) : GInv arcs n root gone (finG arcs n root others gone) := .iter N gone _
theorem GInv.len_lt {gone : Int → Bool} {s : GSt} (h : GInv arcs n root gone s) : s.out.length < n := by
  have := List.countP_le_length (p := s.has) (l := upto n)
  rw [upto_length, h.cnt] at this
  omega
theorem mem_growL (N : NetA n arcs root) {gone : Int → Bool} {i : Int} : i ∈ growL arcs n root others gone ↔ i ∈ (finG arcs n root others gone).out := by
  rw [growL, List.mem_filter, mem_upto]
  exact ⟨fun h => by simpa using h.2, fun h => ⟨(GInv.fin N gone).rng i h, by simpa using h⟩⟩
theorem growL_up (gone : Int → Bool) : (growL arcs n root others gone).Pairwise (· < ·) := (up_upto _).filter _
end

/-- Arborescence by arborescence. -/
noncomputable def packI (arcs : List (Int × Int)) (n : Nat) (root : Int) (k : Nat) : Nat → (Int → Bool) × List (List Int)
  | 0 => (no0, [])
  | i + 1 => ((finG arcs n root (k - 1 - i) (packI arcs n root k i).1).gone, (packI arcs n root k i).2 ++ [growL arcs n root (k - 1 - i) (packI arcs n root k i).1])
end Go.Am
