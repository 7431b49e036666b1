/- Plain law: how one comes to all that one comes to. -/
import Derived.Test.YtkgcmgbndapjcaaM15
namespace Go.Am
set_option linter.unusedVariables false

/-- While one is at u, up to arc i; q are still to be looked at. -/
structure WMid (arcs : List (Int × Int)) (n : Nat) (gone full : Int → Bool) (root : Int) (by' : Int → Int) (come : Int → Bool) (q : List Int) (u : Int) (i : Int) : Prop where
  src : come root = true
  rng : ∀ x, come x = true → 0 ≤ x ∧ x < n
  inq : ∀ x ∈ q, come x = true
  cur : come u = true
  back : ∃ (rank : Int → Nat) (c : Nat), (∀ x, come x = true → rank x < c) ∧ BackA arcs gone full root by' come rank
  step : ∀ j : Int, 0 ≤ j → j < arcs.length → gone j = false → come (frA arcs full j) = true → frA arcs full j ∉ q → (frA arcs full j = u → j < i) → come (toA arcs full j) = true
structure WOut (arcs : List (Int × Int)) (n : Nat) (gone full : Int → Bool) (root : Int) (by' : Int → Int) (come : Int → Bool) (q : List Int) : Prop where
  src : come root = true
  rng : ∀ x, come x = true → 0 ≤ x ∧ x < n
  inq : ∀ x ∈ q, come x = true
  back : ∃ (rank : Int → Nat) (c : Nat), (∀ x, come x = true → rank x < c) ∧ BackA arcs gone full root by' come rank
  step : ∀ j : Int, 0 ≤ j → j < arcs.length → gone j = false → come (frA arcs full j) = true → frA arcs full j ∉ q → come (toA arcs full j) = true

section
variable {arcs : List (Int × Int)} {n : Nat} {gone full : Int → Bool} {root u i : Int} {by' : Int → Int} {come : Int → Bool} {q : List Int}
theorem WOut.start (h : 0 ≤ root ∧ root < n) : WOut arcs n gone full root by' (setF (fun _ => false) root true) [root] where
  src := setF_same _ _ _
  rng x hx := by
    by_cases e : x = root
    · subst e; exact h
    · rw [setF_ne _ _ e] at hx; cases hx
  inq x hx := by simp at hx; subst hx; exact setF_same _ _ _
  back := ⟨fun _ => 0, 1, fun _ _ => Nat.zero_lt_one, fun x hx hne => by rw [setF_ne _ _ hne] at hx; cases hx⟩
  step j _ _ _ hc hq := by
    by_cases e : frA arcs full j = root
    · rw [e] at hq; simp at hq
    · rw [setF_ne _ _ e] at hc; cases hc
theorem WOut.pop (h : WOut arcs n gone full root by' come (u :: q)) : WMid arcs n gone full root by' come q u 0 where
  src := h.src
  rng := h.rng
  inq x hx := h.inq x (by simp [hx])
  cur := h.inq u (by simp)
  back := h.back
  step j h0 h1 hg hc hq hu := h.step j h0 h1 hg hc fun hx => by
    rcases List.mem_cons.1 hx with e | e
    · have := hu e; omega
    · exact hq e
theorem WMid.skip (h : WMid arcs n gone full root by' come q u i) (hs : gone i = true ∨ frA arcs full i ≠ u ∨ come (toA arcs full i) = true) : WMid arcs n gone full root by' come q u (i + 1) where
  src := h.src
  rng := h.rng
  inq := h.inq
  cur := h.cur
  back := h.back
  step j h0 h1 hg hc hq hu := by
    by_cases e : j = i
    · subst e
      rcases hs with hs | hs | hs
      · rw [hs] at hg; cases hg
      · exact h.step j h0 h1 hg hc hq fun e => absurd e hs
      · exact hs
    · exact h.step j h0 h1 hg hc hq fun e' => by have := hu e'; omega
theorem WMid.new (h : WMid arcs n gone full root by' come q u i) (h0 : 0 ≤ i) (h1 : i < arcs.length) (hg : gone i = false) (hf : frA arcs full i = u) (hc : come (toA arcs full i) = false) (hr : 0 ≤ toA arcs full i ∧ toA arcs full i < n) :
    WMid arcs n gone full root (setF by' (toA arcs full i) i) (setF come (toA arcs full i) true) (q ++ [toA arcs full i]) u (i + 1) := by
  have hne : ∀ {x}, come x = true → x ≠ toA arcs full i := fun hx e => by rw [e, hc] at hx; cases hx
  have hup : ∀ {x}, come x = true → setF come (toA arcs full i) true x = true := fun hx => by rw [setF_ne _ _ (hne hx)]; exact hx
  obtain ⟨rank, c, hb, hB⟩ := h.back
  refine ⟨hup h.src, fun x hx => ?_, fun x hx => ?_, hup h.cur, ⟨setF rank (toA arcs full i) c, c + 1, fun x hx => ?_, fun x hx hne' => ?_⟩, fun j j0 j1 jg jc jq ju => ?_⟩
  · by_cases e : x = toA arcs full i
    · subst e; exact hr
    · rw [setF_ne _ _ e] at hx; exact h.rng x hx
  · rcases List.mem_append.1 hx with hx | hx
    · exact hup (h.inq x hx)
    · simp at hx; subst hx; exact setF_same _ _ _
  · by_cases e : x = toA arcs full i
    · subst e; rw [setF_same]; omega
    · rw [setF_ne _ _ e] at hx ⊢; have := hb x hx; omega
  · by_cases e : x = toA arcs full i
    · subst e
      rw [setF_same, setF_same, hf]
      refine ⟨h0, h1, hg, rfl, hup h.cur, ?_⟩
      rw [setF_ne _ _ (hne h.cur)]
      exact hb u h.cur
    · rw [setF_ne _ _ e] at hx
      obtain ⟨a0, a1, a2, a3, a4, a5⟩ := hB x hx hne'
      rw [setF_ne _ _ e, setF_ne _ _ e]
      exact ⟨a0, a1, a2, a3, hup a4, by rw [setF_ne _ _ (hne a4)]; exact a5⟩
  · rw [List.mem_append] at jq
    have jf : frA arcs full j ≠ toA arcs full i := fun e => jq (.inr (by simp [e]))
    rw [setF_ne _ _ jf] at jc
    by_cases e : j = i
    · subst e; exact setF_same _ _ _
    · exact hup (h.step j j0 j1 jg jc (fun h => jq (.inl h)) fun e' => by have := ju e'; omega)
theorem WMid.end (h : WMid arcs n gone full root by' come q u arcs.length) : WOut arcs n gone full root by' come q :=
  ⟨h.src, h.rng, h.inq, h.back, fun j h0 h1 hg hc hq => h.step j h0 h1 hg hc hq fun _ => h1⟩
theorem WOut.fin (h : WOut arcs n gone full root by' come []) : WkA arcs n gone full root by' come :=
  ⟨h.src, fun j h0 h1 hg hc => h.step j h0 h1 hg hc (by simp), by obtain ⟨rank, c, _, hB⟩ := h.back; exact ⟨rank, hB⟩, h.rng⟩
end
end Go.Am
