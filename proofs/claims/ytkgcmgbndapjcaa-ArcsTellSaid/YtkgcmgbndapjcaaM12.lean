/- Plain law: the most units, the least cut. -/
import Derived.Test.YtkgcmgbndapjcaaM11
namespace Go.Am
set_option linter.unusedVariables false

section
variable (arcs : List (Int × Int))
/-- Where one comes from along an arc, and to: back along a unit. -/
def frA (full : Int → Bool) (i : Int) : Int := if full i then hdA arcs i else tlA arcs i
def toA (full : Int → Bool) (i : Int) : Int := if full i then tlA arcs i else hdA arcs i

/-- So many units come to v. -/
structure FlowS (gone full : Int → Bool) (root v : Int) (units : Nat) : Prop where
  rng : ∀ i : Int, full i = true → 0 ≤ i ∧ i < arcs.length ∧ gone i = false
  zero : ∀ u : Int, u ≠ root → u ≠ v → exA arcs full u = 0
  most : exA arcs full v = units

/-- How one comes from the root to all that one comes to. -/
structure WkA (n : Nat) (gone full : Int → Bool) (root : Int) (by' : Int → Int) (come : Int → Bool) : Prop where
  src : come root = true
  step : ∀ i : Int, 0 ≤ i → i < arcs.length → gone i = false → come (frA arcs full i) = true → come (toA arcs full i) = true
  back : ∃ rank : Int → Nat, ∀ u, come u = true → u ≠ root → 0 ≤ by' u ∧ by' u < arcs.length ∧ gone (by' u) = false ∧ toA arcs full (by' u) = u ∧ come (frA arcs full (by' u)) = true ∧ rank (frA arcs full (by' u)) < rank u
  rng : ∀ u, come u = true → 0 ≤ u ∧ u < n

/-- The arcs, not gone, that enter a set. -/
def entA (gone : Int → Bool) (T : List Int) : List Int := (upto arcs.length).filter fun i => !gone i && decide (hdA arcs i ∈ T) && !decide (tlA arcs i ∈ T)

theorem len_sum {l : List Int} (p : Int → Bool) : ((l.filter p).length : Int) = (l.map fun x => b2i (p x)).sum := by
  induction l with
  | nil => rfl
  | cons a l ih =>
    rw [List.filter_cons]
    simp only [List.map_cons, List.sum_cons, ← ih]
    cases h : p a <;> simp [b2i] <;> omega
theorem sum_le {α : Type} {l : List α} {f g : α → Int} (h : ∀ x ∈ l, f x ≤ g x) : (l.map f).sum ≤ (l.map g).sum := by
  induction l with
  | nil => simp
  | cons a l ih =>
    simp only [List.map_cons, List.sum_cons]
    have := h a (by simp)
    have := ih fun x hx => h x (by simp [hx])
    omega
theorem sum_eq_all {α : Type} {l : List α} {f g : α → Int} (h : ∀ x ∈ l, f x ≤ g x) (e : (l.map f).sum = (l.map g).sum) : ∀ x ∈ l, f x = g x := by
  induction l with
  | nil => intro x hx; cases hx
  | cons a l ih =>
    simp only [List.map_cons, List.sum_cons] at e
    have h1 := h a (by simp)
    have h2 := sum_le fun x hx => h x (List.mem_cons_of_mem a hx)
    intro x hx
    rcases List.mem_cons.1 hx with rfl | hx
    · omega
    · exact ih (fun x hx => h x (by simp [hx])) (by omega) x hx

variable {arcs} {gone full : Int → Bool} {root v : Int} {units : Nat}
theorem FlowS.cut (h : FlowS arcs gone full root v units) {T : List Int} (hn : T.Nodup) (hr : root ∉ T) (hv : v ∈ T) :
    (units : Int) = ((upto arcs.length).map fun i => if full i then b2i (decide (hdA arcs i ∈ T)) - b2i (decide (tlA arcs i ∈ T)) else 0).sum := by
  rw [← ex_cut arcs full hn]
  have := sum_one hn (f := exA arcs full) (g := fun _ => 0) hv fun x hx hne => h.zero x (fun e => by subst e; exact hr hx) hne
  rw [sum_zero] at this
  have := h.most
  omega

theorem ent_term (h : FlowS arcs gone full root v units) (T : List Int) (i : Int) :
    (if full i then b2i (decide (hdA arcs i ∈ T)) - b2i (decide (tlA arcs i ∈ T)) else 0) ≤ b2i (!gone i && decide (hdA arcs i ∈ T) && !decide (tlA arcs i ∈ T)) := by
  cases hf : full i with
  | false => simp [b2i]; split <;> omega
  | true =>
    have := (h.rng i hf).2.2
    by_cases a : hdA arcs i ∈ T <;> by_cases b : tlA arcs i ∈ T <;> simp [b2i, a, b, this]

/-- No more units come than arcs enter a set. -/
theorem FlowS.le (h : FlowS arcs gone full root v units) {T : List Int} (hn : T.Nodup) (hr : root ∉ T) (hv : v ∈ T) : units ≤ (entA arcs gone T).length := by
  have h1 := h.cut hn hr hv
  have h2 := len_sum (l := upto arcs.length) fun i => !gone i && decide (hdA arcs i ∈ T) && !decide (tlA arcs i ∈ T)
  have h3 := sum_le (l := upto arcs.length) fun i _ => ent_term h T i
  unfold entA
  omega
end
end Go.Am
