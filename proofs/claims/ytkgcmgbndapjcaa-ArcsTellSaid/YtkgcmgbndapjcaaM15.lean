/- Plain law: one unit more is sent along a way that was found. -/
import Derived.Test.YtkgcmgbndapjcaaM14
namespace Go.Am
set_option linter.unusedVariables false

/-- How one comes from the root to all that one comes to, each later than the one ahead. -/
def BackA (arcs : List (Int × Int)) (gone full : Int → Bool) (root : Int) (by' : Int → Int) (come : Int → Bool) (rank : Int → Nat) : Prop :=
  ∀ u, come u = true → u ≠ root → 0 ≤ by' u ∧ by' u < arcs.length ∧ gone (by' u) = false ∧ toA arcs full (by' u) = u ∧ come (frA arcs full (by' u)) = true ∧ rank (frA arcs full (by' u)) < rank u

/-- On the way back from e one stands at v. -/
structure SendI (arcs : List (Int × Int)) (gone full full' : Int → Bool) (root : Int) (by' : Int → Int) (come : Int → Bool) (rank : Int → Nat) (e v : Int) : Prop where
  ex : ∀ u : Int, exA arcs full' u = exA arcs full u + b2i (decide (u = e)) - b2i (decide (u = v))
  same : ∀ u : Int, come u = true → u ≠ root → rank u ≤ rank v → full' (by' u) = full (by' u)
  rng : ∀ i : Int, full' i = true → 0 ≤ i ∧ i < arcs.length ∧ gone i = false
  at' : come v = true

section
variable {arcs : List (Int × Int)} {gone full full' : Int → Bool} {root e v : Int} {by' : Int → Int} {come : Int → Bool} {rank : Int → Nat}
theorem SendI.start (hr : ∀ i : Int, full i = true → 0 ≤ i ∧ i < arcs.length ∧ gone i = false) (hc : come e = true) : SendI arcs gone full full root by' come rank e e :=
  ⟨fun u => by omega, fun u _ _ _ => rfl, hr, hc⟩
theorem SendI.go (h : SendI arcs gone full full' root by' come rank e v) (hb : BackA arcs gone full root by' come rank) (hv : v ≠ root) :
    SendI arcs gone full (setF full' (by' v) (!full' (by' v))) root by' come rank e (frA arcs full (by' v)) ∧ rank (frA arcs full (by' v)) < rank v := by
  obtain ⟨a0, a1, a2, a3, a4, a5⟩ := hb v h.at' hv
  have hs := h.same v h.at' hv (Nat.le_refl _)
  refine ⟨⟨fun u => ?_, fun u hc hu hru => ?_, fun i hi => ?_, a4⟩, a5⟩
  · rw [ex_turn arcs a0 a1 u, h.ex u, hs]
    unfold frA
    unfold toA at a3
    cases hf : full (by' v) with
    | true =>
      simp only [hf, if_true] at a3 ⊢
      rw [a3]
      have e1 : b2i (decide (v = u)) = b2i (decide (u = v)) := by simp only [eq_comm]
      have e2 : b2i (decide (hdA arcs (by' v) = u)) = b2i (decide (u = hdA arcs (by' v))) := by simp only [eq_comm]
      omega
    | false =>
      simp only [hf, if_neg Bool.false_ne_true] at a3 ⊢
      rw [a3]
      have e1 : b2i (decide (v = u)) = b2i (decide (u = v)) := by simp only [eq_comm]
      have e2 : b2i (decide (tlA arcs (by' v) = u)) = b2i (decide (u = tlA arcs (by' v))) := by simp only [eq_comm]
      omega
  · have hne : by' u ≠ by' v := fun e => by
      have := (hb u hc hu).2.2.2.1
      rw [e, a3] at this
      subst this
      omega
    rw [setF_ne _ _ hne]
    exact h.same u hc hu (by omega)
  · by_cases e : i = by' v
    · subst e; exact ⟨a0, a1, a2⟩
    · rw [setF_ne _ _ e] at hi; exact h.rng i hi
end
end Go.Am
