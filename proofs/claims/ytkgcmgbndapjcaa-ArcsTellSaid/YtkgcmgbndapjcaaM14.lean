/- Plain law: a set that as few arcs enter lies in what is not reached. -/
import Derived.Test.YtkgcmgbndapjcaaM13
namespace Go.Am
set_option linter.unusedVariables false

section
variable {arcs : List (Int × Int)} {n : Nat} {gone full : Int → Bool} {root v : Int} {units : Nat} {by' : Int → Int} {come : Int → Bool}

theorem FlowS.within (h : FlowS arcs gone full root v units) (w : WkA arcs n gone full root by' come) {T : List Int} (hn : T.Nodup) (hr : root ∉ T) (hv : v ∈ T) (he : units = (entA arcs gone T).length) :
    ∀ u, come u = true → u ∉ T := by
  have h1 := h.cut hn hr hv
  have h2 := len_sum (l := upto arcs.length) fun i => !gone i && decide (hdA arcs i ∈ T) && !decide (tlA arcs i ∈ T)
  have h3 := sum_eq_all (l := upto arcs.length) (fun i _ => ent_term h T i) (by unfold entA at he; omega)
  obtain ⟨rank, hb⟩ := w.back
  have key : ∀ (N : Nat) (u : Int), rank u ≤ N → come u = true → u ∉ T := by
    intro N
    induction N with
    | zero =>
      intro u hu hc
      by_cases e : u = root
      · subst e; exact hr
      · have := (hb u hc e).2.2.2.2.2; omega
    | succ N ih =>
      intro u hu hc
      by_cases e : u = root
      · subst e; exact hr
      · obtain ⟨a0, a1, a2, a3, a4, a5⟩ := hb u hc e
        have hfr := ih _ (by omega) a4
        have ht := h3 (by' u) (mem_upto.2 ⟨a0, a1⟩)
        unfold frA at hfr
        unfold toA at a3
        intro hu2
        cases hf : full (by' u) with
        | true =>
          simp only [hf, if_true] at hfr a3 ht
          rw [a3] at ht
          simp [b2i, hfr, hu2] at ht
        | false =>
          simp only [hf, if_neg Bool.false_ne_true] at hfr a3 ht
          rw [a3] at ht
          simp [b2i, hfr, hu2, a2] at ht
  exact fun u hc => key _ u (Nat.le_refl _) hc
end
end Go.Am
