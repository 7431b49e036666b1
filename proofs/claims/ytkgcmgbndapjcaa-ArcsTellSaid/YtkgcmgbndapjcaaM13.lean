/- Plain law: where one does not come to v, the units are the arcs that enter what is not reached. -/
import Derived.Test.YtkgcmgbndapjcaaM12
namespace Go.Am
set_option linter.unusedVariables false

section
variable {arcs : List (Int × Int)} {n : Nat} {gone full : Int → Bool} {root v : Int} {units : Nat} {by' : Int → Int} {come : Int → Bool}

/-- What one does not come to. -/
def notC (n : Nat) (come : Int → Bool) : List Int := (upto n).filter fun u => !come u
theorem mem_notC {u : Int} : u ∈ notC n come ↔ (0 ≤ u ∧ u < n) ∧ come u = false := by
  unfold notC
  rw [List.mem_filter, mem_upto]
  simp

theorem FlowS.tight (h : FlowS arcs gone full root v units) (w : WkA arcs n gone full root by' come) (hin : ∀ i : Int, 0 ≤ i → i < arcs.length → (0 ≤ tlA arcs i ∧ tlA arcs i < n) ∧ 0 ≤ hdA arcs i ∧ hdA arcs i < n)
    (hv : 0 ≤ v ∧ v < n) (hc : come v = false) : units = (entA arcs gone (notC n come)).length := by
  have hn : (notC n come).Nodup := (nodup_upto n).filter _
  have hr : root ∉ notC n come := fun hx => by have := (mem_notC.1 hx).2; rw [w.src] at this; cases this
  have h1 := h.cut hn hr (mem_notC.2 ⟨hv, hc⟩)
  have h2 := len_sum (l := upto arcs.length) fun i => !gone i && decide (hdA arcs i ∈ notC n come) && !decide (tlA arcs i ∈ notC n come)
  have h3 : ((upto arcs.length).map fun i => if full i then b2i (decide (hdA arcs i ∈ notC n come)) - b2i (decide (tlA arcs i ∈ notC n come)) else 0).sum
      = ((upto arcs.length).map fun i => b2i (!gone i && decide (hdA arcs i ∈ notC n come) && !decide (tlA arcs i ∈ notC n come))).sum := by
    refine sum_congr fun i hi => ?_
    obtain ⟨a, b⟩ := mem_upto.1 hi
    obtain ⟨ht, hh⟩ := hin i a b
    have mh : hdA arcs i ∈ notC n come ↔ come (hdA arcs i) = false := by rw [mem_notC]; exact ⟨fun x => x.2, fun x => ⟨hh, x⟩⟩
    have mt : tlA arcs i ∈ notC n come ↔ come (tlA arcs i) = false := by rw [mem_notC]; exact ⟨fun x => x.2, fun x => ⟨ht, x⟩⟩
    have hs := w.step i a b
    unfold frA toA at hs
    cases hf : full i with
    | true =>
      have hg := (h.rng i hf).2.2
      rw [hf] at hs
      simp only [if_true, hg, forall_const] at hs
      cases c1 : come (hdA arcs i) <;> cases c2 : come (tlA arcs i) <;> simp_all [b2i]
    | false =>
      rw [hf] at hs
      cases hg : gone i <;> cases c1 : come (hdA arcs i) <;> cases c2 : come (tlA arcs i) <;> simp_all [b2i]
  unfold entA
  omega
end
end Go.Am
