/- Plain law: small networks are reckoned. -/
import Derived.Test.YtkgcmgbndapjcaaM19
import Derived.Test.YtkgcmgbndapjcaaW56
namespace Go.Am
set_option linter.unusedVariables false
set_option linter.unusedSimpArgs false

def setsC (n : Nat) (root : Int) : List (List Int) := ((List.range (2 ^ n)).map fun b => (upto n).filter fun j => b.testBit j.toNat).filter fun s => !decide (root ∈ s)
def enoughC (arcs : List (Int × Int)) (n : Nat) (gone : Int → Bool) (root : Int) (k : Nat) : Bool := (setsC n root).all fun s => s.isEmpty || decide (k ≤ (entA arcs gone s).length)

theorem mem_setsC {n : Nat} {root : Int} (T : Int → Bool) (hT : T root = false) : (upto n).filter T ∈ setsC n root := by
  obtain ⟨b, hb, hs⟩ := subL_of (n := n) (s := (upto n).filter T) ((up_upto n).filter _) fun x hx => mem_upto.1 (List.mem_filter.1 hx).1
  refine List.mem_filter.2 ⟨List.mem_map.2 ⟨b, List.mem_range.2 hb, hs⟩, ?_⟩
  have : root ∉ (upto n).filter T := fun h => by have := (List.mem_filter.1 h).2; rw [hT] at this; cases this
  rw [Bool.not_eq_true', decide_eq_false_iff_not]
  exact this
theorem NetA.enoughC {n : Nat} {arcs : List (Int × Int)} {root : Int} (N : NetA n arcs root) (gone : Int → Bool) (k : Nat) : enoughB arcs n gone root k = Am.enoughC arcs n gone root k := by
  have h : EnoughP arcs n gone root k ↔ Am.enoughC arcs n gone root k = true := by
    rw [Am.enoughC, List.all_eq_true]
    constructor
    · intro h s hs
      rw [Bool.or_eq_true, decide_eq_true_eq]
      cases s with
      | nil => left; rfl
      | cons x s =>
        right
        rw [entA_len]
        obtain ⟨hs1, hs2⟩ := List.mem_filter.1 hs
        obtain ⟨b, _, hb⟩ := List.mem_map.1 hs1
        refine h _ ⟨by simpa using hs2, x, ?_⟩
        have : x ∈ (upto n).filter fun j => b.testBit j.toNat := by rw [hb]; simp
        obtain ⟨a, c⟩ := mem_upto.1 (List.mem_filter.1 this).1
        exact ⟨a, c, by simp⟩
    · intro h T ⟨hT, u, u0, un, hu⟩
      have h1 := h _ (mem_setsC (n := n) T hT)
      rw [Bool.or_eq_true, decide_eq_true_eq] at h1
      rw [N.ent_range]
      rcases h1 with h1 | h1
      · have : u ∈ (upto n).filter T := List.mem_filter.2 ⟨mem_upto.2 ⟨u0, un⟩, hu⟩
        rw [List.isEmpty_iff] at h1
        rw [h1] at this; cases this
      · exact h1
  cases e : Am.enoughC arcs n gone root k
  · exact enoughB_false.2 fun hh => by rw [h.1 hh] at e; cases e
  · exact enoughB_true.2 (h.2 e)

section
variable (arcs : List (Int × Int)) (n : Nat) (root : Int) (others : Nat)
def okGC (s : GSt) (i : Int) : Bool := !s.gone i && s.has (tlA arcs i) && !s.has (hdA arcs i) && enoughC arcs n (setF s.gone i true) root others
def stepGC (s : GSt) : GSt := match (upto arcs.length).find? (okGC arcs n root others s) with
  | some i => takeG arcs s i
  | none => s
def iterGC (gone : Int → Bool) : Nat → GSt
  | 0 => startG root gone
  | k + 1 => stepGC arcs n root others (iterGC gone k)
def finGC (gone : Int → Bool) : GSt := iterGC arcs n root others gone (n - 1)
def growLC (gone : Int → Bool) : List Int := (upto arcs.length).filter fun i => decide (i ∈ (finGC arcs n root others gone).out)
end
def packIC (arcs : List (Int × Int)) (n : Nat) (root : Int) (k : Nat) : Nat → (Int → Bool) × List (List Int)
  | 0 => (no0, [])
  | i + 1 => ((finGC arcs n root (k - 1 - i) (packIC arcs n root k i).1).gone, (packIC arcs n root k i).2 ++ [growLC arcs n root (k - 1 - i) (packIC arcs n root k i).1])
section
variable {arcs : List (Int × Int)} {n : Nat} {root v : Int}
theorem NetA.okG_eq (N : NetA n arcs root) (others : Nat) (s : GSt) : okG arcs n root others s = okGC arcs n root others s := by
  funext i; rw [okG, okGC, N.enoughC]
theorem NetA.finG_eq (N : NetA n arcs root) (others : Nat) (gone : Int → Bool) : finG arcs n root others gone = finGC arcs n root others gone := by
  have : ∀ k, iterG arcs n root others gone k = iterGC arcs n root others gone k := by
    intro k
    induction k with
    | zero => rfl
    | succ k ih => rw [iterG, iterGC, ih, stepG, stepGC, N.okG_eq]; rfl
  exact this _
theorem NetA.packI_eq (N : NetA n arcs root) (k i : Nat) : packI arcs n root k i = packIC arcs n root k i := by
  induction i with
  | zero => rfl
  | succ i ih => rw [packI, packIC, ih, growL, growLC, N.finG_eq]

/-- Is that the least cut? -/
def flowC (arcs : List (Int × Int)) (n : Nat) (root v : Int) (units : Nat) (s : List Int) : Bool :=
  decide (s = (upto n).filter fun x => decide (x ∈ s)) && decide (v ∈ s) && !decide (root ∈ s) && decide ((entA arcs no0 s).length = units) &&
    (setsC n root).all fun t => !decide (v ∈ t) || (decide (units ≤ (entA arcs no0 t).length) && (!decide ((entA arcs no0 t).length = units) || t.all fun x => decide (x ∈ s)))
theorem NetA.flowC (N : NetA n arcs root) {units : Nat} {s : List Int} (hv : 0 ≤ v ∧ v < n) (h : Am.flowC arcs n root v units s = true) : flowA arcs n no0 root v = (units, s) := by
  simp only [Am.flowC, Bool.and_eq_true, decide_eq_true_eq, Bool.not_eq_true', decide_eq_false_iff_not, List.all_eq_true] at h
  obtain ⟨⟨⟨⟨h1, h2⟩, h3⟩, h4⟩, h5⟩ := h
  have key : ∀ T : Int → Bool, T root = false → T v = true → units ≤ entP arcs no0 T ∧ (entP arcs no0 T = units → ∀ u : Int, 0 ≤ u → u < n → T u = true → u ∈ s) := by
    intro T a b
    have h6 := h5 _ (mem_setsC (n := n) T a)
    have hvm : v ∈ (upto n).filter T := List.mem_filter.2 ⟨mem_upto.2 hv, b⟩
    simp only [hvm, decide_true, Bool.not_true, Bool.false_or, Bool.and_eq_true, decide_eq_true_eq, Bool.or_eq_true, Bool.not_eq_true', decide_eq_false_iff_not, List.all_eq_true] at h6
    rw [← N.ent_range] at h6
    refine ⟨h6.1, fun e u u0 un hu => ?_⟩
    rcases h6.2 with h7 | h7
    · exact absurd e h7
    · exact h7 u (List.mem_filter.2 ⟨mem_upto.2 ⟨u0, un⟩, hu⟩)
  refine FlowAns.eq ⟨by rw [h1]; exact (up_upto n).filter _, fun x hx => ?_, h2, h3, by rw [← entA_len]; exact h4, fun T a b => (key T a b).1, fun T a b => (key T a b).2⟩
  rw [h1] at hx
  exact mem_upto.1 (List.mem_filter.1 hx).1
end
end Go.Am
