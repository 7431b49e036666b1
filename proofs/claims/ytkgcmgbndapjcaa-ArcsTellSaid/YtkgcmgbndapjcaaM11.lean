/- Plain law: units along arcs; cuts. -/
import Derived.Test.YtkgcmgbndapjcaaB4
namespace Go.Am
set_option linter.unusedVariables false

theorem sum_zero {α : Type} (l : List α) : (l.map fun _ => (0 : Int)).sum = 0 := by
  induction l with
  | nil => rfl
  | cons a l ih => simp [ih]
theorem sum_add {α : Type} (l : List α) (f g : α → Int) : (l.map fun x => f x + g x).sum = (l.map f).sum + (l.map g).sum := by
  induction l with
  | nil => rfl
  | cons a l ih => simp only [List.map_cons, List.sum_cons, ih]; omega
theorem sum_congr {α : Type} {l : List α} {f g : α → Int} (h : ∀ x ∈ l, f x = g x) : (l.map f).sum = (l.map g).sum := by
  rw [List.map_congr_left h]
theorem sum_comm {α β : Type} (A : List α) (B : List β) (f : α → β → Int) : (A.map fun a => (B.map (f a)).sum).sum = (B.map fun b => (A.map fun a => f a b).sum).sum := by
  induction A with
  | nil => simp [sum_zero]
  | cons a A ih => simp only [List.map_cons, List.sum_cons, ih, sum_add]
/-- One place of a sum is other. -/
theorem sum_one {l : List Int} (hn : l.Nodup) {f g : Int → Int} {i : Int} (hi : i ∈ l) (h : ∀ x ∈ l, x ≠ i → f x = g x) : (l.map f).sum = (l.map g).sum + (f i - g i) := by
  induction l with
  | nil => cases hi
  | cons a l ih =>
    obtain ⟨h1, h2⟩ := List.nodup_cons.1 hn
    simp only [List.map_cons, List.sum_cons]
    by_cases e : a = i
    · subst e
      have : (l.map f).sum = (l.map g).sum := sum_congr fun x hx => h x (by simp [hx]) fun e => by subst e; exact h1 hx
      omega
    · have hi' : i ∈ l := by
        rcases List.mem_cons.1 hi with hh | hh
        · exact absurd hh.symm e
        · exact hh
      have := ih h2 hi' fun x hx hne => h x (by simp [hx]) hne
      have := h a (by simp) e
      omega

def b2i (b : Bool) : Int := if b then 1 else 0
theorem sum_b2i {T : List Int} (hn : T.Nodup) (x : Int) : (T.map fun u => b2i (decide (x = u))).sum = b2i (decide (x ∈ T)) := by
  induction T with
  | nil => rfl
  | cons a T ih =>
    obtain ⟨h1, h2⟩ := List.nodup_cons.1 hn
    simp only [List.map_cons, List.sum_cons, ih h2]
    by_cases e : x = a
    · subst e; simp [b2i, h1]
    · simp [b2i, e]

section
variable (arcs : List (Int × Int))
/-- Where an arc begins, and ends. -/
def tlA (i : Int) : Int := (arcs.getD i.toNat (0, 0)).1
def hdA (i : Int) : Int := (arcs.getD i.toNat (0, 0)).2
/-- How many units stay at a vertex. -/
def exA (full : Int → Bool) (u : Int) : Int := ((upto arcs.length).map fun i => if full i then b2i (decide (hdA arcs i = u)) - b2i (decide (tlA arcs i = u)) else 0).sum

theorem ex_cut (full : Int → Bool) {T : List Int} (hn : T.Nodup) :
    (T.map (exA arcs full)).sum = ((upto arcs.length).map fun i => if full i then b2i (decide (hdA arcs i ∈ T)) - b2i (decide (tlA arcs i ∈ T)) else 0).sum := by
  unfold exA
  rw [sum_comm]
  refine sum_congr fun i _ => ?_
  by_cases h : full i = true
  · simp only [h, if_true]
    have := sum_add T (fun u => b2i (decide (hdA arcs i = u))) (fun u => - b2i (decide (tlA arcs i = u)))
    have e : (T.map fun u => - b2i (decide (tlA arcs i = u))).sum = - (T.map fun u => b2i (decide (tlA arcs i = u))).sum := by
      clear this hn
      induction T with
      | nil => rfl
      | cons a T ih => simp only [List.map_cons, List.sum_cons, ih]; omega
    simp only [Int.sub_eq_add_neg]
    rw [this, e, sum_b2i hn, sum_b2i hn]
  · simp [h, sum_zero]

/-- A unit more along an arc, forward, or one back. -/
theorem ex_turn {full : Int → Bool} {i : Int} (h0 : 0 ≤ i) (h1 : i < arcs.length) (u : Int) :
    exA arcs (setF full i (!full i)) u = exA arcs full u + (if full i then b2i (decide (tlA arcs i = u)) - b2i (decide (hdA arcs i = u)) else b2i (decide (hdA arcs i = u)) - b2i (decide (tlA arcs i = u))) := by
  unfold exA
  rw [sum_one (nodup_upto _) (g := fun i => if full i then b2i (decide (hdA arcs i = u)) - b2i (decide (tlA arcs i = u)) else 0) (i := i) (mem_upto.2 ⟨h0, h1⟩) fun x _ hx => by rw [setF_ne _ _ hx]]
  rw [setF_same]
  cases full i <;> simp <;> omega
end
end Go.Am
