/- Plain law: of the sets that have v, and not the root, the least cut, and all vertices of such. -/
import Derived.Test.YtkgcmgbndapjcaaW54
namespace Go.Am
set_option linter.unusedVariables false
set_option linter.unusedSimpArgs false

/-- No arc is gone. -/
abbrev no0 : Int → Bool := fun _ => false

/-- The least number of arcs that enter such a set, and all vertices of such sets. -/
structure FlowAns (arcs : List (Int × Int)) (n : Nat) (gone : Int → Bool) (root v : Int) (units : Nat) (s : List Int) : Prop where
  up : s.Pairwise (· < ·)
  rng : ∀ x ∈ s, 0 ≤ x ∧ x < n
  has : v ∈ s
  nroot : root ∉ s
  is : entP arcs gone (fun u => decide (u ∈ s)) = units
  least : EnoughAt arcs gone root units v
  all : ∀ T : Int → Bool, T root = false → T v = true → entP arcs gone T = units → ∀ u : Int, 0 ≤ u → u < n → T u = true → u ∈ s

section
variable {arcs : List (Int × Int)} {n : Nat} {gone : Int → Bool} {root v : Int} {units units' : Nat} {s s' : List Int}
theorem FlowAns.units_eq (h : FlowAns arcs n gone root v units s) (h' : FlowAns arcs n gone root v units' s') : units = units' := by
  have a := h.least (fun u => decide (u ∈ s')) (by simp [h'.nroot]) (by simp [h'.has])
  have b := h'.least (fun u => decide (u ∈ s)) (by simp [h.nroot]) (by simp [h.has])
  rw [h'.is] at a
  rw [h.is] at b
  omega
theorem FlowAns.set_eq (h : FlowAns arcs n gone root v units s) (h' : FlowAns arcs n gone root v units' s') : s = s' := by
  have e := h.units_eq h'
  subst e
  refine up_ext h.up h'.up fun x => ⟨fun hx => ?_, fun hx => ?_⟩
  · obtain ⟨a, b⟩ := h.rng x hx
    exact h'.all (fun u => decide (u ∈ s)) (by simp [h.nroot]) (by simp [h.has]) h.is x a b (by simpa using hx)
  · obtain ⟨a, b⟩ := h'.rng x hx
    exact h.all (fun u => decide (u ∈ s')) (by simp [h'.nroot]) (by simp [h'.has]) h'.is x a b (by simpa using hx)

theorem least_nat {p : Nat → Prop} (h : ∃ n, p n) : ∃ n, p n ∧ ∀ m, p m → n ≤ m := by
  obtain ⟨n, hn⟩ := h
  induction n using Nat.strongRecOn with
  | _ n ih =>
  by_cases hx : ∃ m, m < n ∧ p m
  · obtain ⟨m, hm, hp⟩ := hx
    exact ih m hm hp
  · exact ⟨n, hn, fun m hm => Nat.le_of_not_lt fun hlt => hx ⟨m, hlt, hm⟩⟩
theorem most_nat {p : Nat → Prop} (B : Nat) (h : ∃ n, p n) (hB : ∀ n, p n → n ≤ B) : ∃ n, p n ∧ ∀ m, p m → m ≤ n := by
  obtain ⟨m, ⟨n, hn, rfl⟩, hl⟩ := least_nat (p := fun m => ∃ n, p n ∧ m = B - n) (by obtain ⟨n, hn⟩ := h; exact ⟨_, n, hn, rfl⟩)
  refine ⟨n, hn, fun k hk => ?_⟩
  have := hl _ ⟨k, hk, rfl⟩
  have := hB k hk
  have := hB n hn
  omega

theorem countP_lt_of {l : List Int} {p q : Int → Bool} (h : ∀ x ∈ l, p x = true → q x = true) {x : Int} (hx : x ∈ l) (hp : p x = false) (hq : q x = true) : l.countP p < l.countP q := by
  induction l with
  | nil => cases hx
  | cons a l ih =>
    have hle : l.countP p ≤ l.countP q := List.countP_mono_left fun y hy => h y (List.mem_cons_of_mem _ hy)
    rw [List.countP_cons, List.countP_cons]
    rcases List.mem_cons.1 hx with e | e
    · subst e; simp [hp, hq]; omega
    · have := ih (fun y hy => h y (List.mem_cons_of_mem _ hy)) e
      have h2 := h a (by simp)
      cases e1 : p a <;> cases e2 : q a <;> simp <;> first | omega | (rw [e1, e2] at h2; simp at h2)

theorem NetA.ans (N : NetA n arcs root) (gone : Int → Bool) (hv : 0 ≤ v ∧ v < n) (hr : v ≠ root) : ∃ units s, FlowAns arcs n gone root v units s := by
  obtain ⟨m, ⟨T0, t0, t1, t2⟩, hl⟩ := least_nat (p := fun m => ∃ T : Int → Bool, T root = false ∧ T v = true ∧ entP arcs gone T = m) ⟨_, fun u => decide (u = v), by simpa using fun e => hr e.symm, by simp, rfl⟩
  have hleast : EnoughAt arcs gone root m v := fun T a b => hl _ ⟨T, a, b, rfl⟩
  obtain ⟨c, ⟨T, a1, a2, a3, a4⟩, hm⟩ := most_nat (p := fun c => ∃ T : Int → Bool, T root = false ∧ T v = true ∧ entP arcs gone T = m ∧ (upto n).countP T = c) (upto n).length ⟨_, T0, t0, t1, t2, rfl⟩
    (fun c ⟨T, _, _, _, e⟩ => by rw [← e]; exact List.countP_le_length)
  refine ⟨m, (upto n).filter T, (up_upto n).filter _, fun x hx => mem_upto.1 (List.mem_filter.1 hx).1, List.mem_filter.2 ⟨mem_upto.2 hv, a2⟩, (fun hx => by have := (List.mem_filter.1 hx).2; rw [a1] at this; cases this), ?_, hleast, fun A b1 b2 b3 u u0 un hu => ?_⟩
  · rw [← entA_len, ← N.ent_range, a3]
  · refine List.mem_filter.2 ⟨mem_upto.2 ⟨u0, un⟩, ?_⟩
    cases e : T u with
    | true => rfl
    | false =>
    exfalso
    have s1 := ent_sub (arcs := arcs) gone T A
    have s2 := hleast (fun u => T u && A u) (by simp [a1]) (by simp [a2, b2])
    have s3 := hleast (fun u => T u || A u) (by simp [a1, b1]) (by simp [a2])
    have s4 := hm _ ⟨fun u => T u || A u, by simp [a1, b1], by simp [a2], by omega, rfl⟩
    have := countP_lt_of (l := upto n) (p := T) (q := fun u => T u || A u) (fun x _ hx => by simp [hx]) (mem_upto.2 ⟨u0, un⟩) e (by simp [hu])
    omega

open Classical in
noncomputable def flowA (arcs : List (Int × Int)) (n : Nat) (gone : Int → Bool) (root v : Int) : Nat × List Int :=
  if h : ∃ p : Nat × List Int, FlowAns arcs n gone root v p.1 p.2 then h.choose else (0, [])
theorem FlowAns.eq (h : FlowAns arcs n gone root v units s) : flowA arcs n gone root v = (units, s) := by
  have hx : ∃ p : Nat × List Int, FlowAns arcs n gone root v p.1 p.2 := ⟨(units, s), h⟩
  rw [flowA, dif_pos hx]
  exact Prod.ext (hx.choose_spec.units_eq h) (hx.choose_spec.set_eq h)
theorem NetA.flow (N : NetA n arcs root) (gone : Int → Bool) (hv : 0 ≤ v ∧ v < n) (hr : v ≠ root) : FlowAns arcs n gone root v (flowA arcs n gone root v).1 (flowA arcs n gone root v).2 := by
  obtain ⟨u, s, h⟩ := N.ans gone hv hr
  rw [h.eq]
  exact h

/-- What the units tell. -/
theorem NetA.most_ans (N : NetA n arcs root) {full : Int → Bool} {by' : Int → Int} {come : Int → Bool} (hf : FlowS arcs gone full root v units) (hw : WkA arcs n gone full root by' come) (hv : 0 ≤ v ∧ v < n) (hc : come v = false) :
    FlowAns arcs n gone root v units (notC n come) where
  up := (up_upto n).filter _
  rng x hx := (mem_notC.1 hx).1
  has := mem_notC.2 ⟨hv, hc⟩
  nroot hx := by have := (mem_notC.1 hx).2; rw [hw.src] at this; cases this
  is := (N.units_tight hf hw hv hc).symm
  least := N.units_le hf hv
  all T a b e u u0 un hu := by
    refine mem_notC.2 ⟨⟨u0, un⟩, ?_⟩
    cases ec : come u with
    | false => rfl
    | true =>
    exfalso
    refine hf.within hw (T := (upto n).filter T) ((nodup_upto n).filter _) (fun h => ?_) (List.mem_filter.2 ⟨mem_upto.2 hv, b⟩) (by rw [← N.ent_range, e]) u ec (List.mem_filter.2 ⟨mem_upto.2 ⟨u0, un⟩, hu⟩)
    have := (List.mem_filter.1 h).2
    rw [a] at this
    cases this
theorem flow_le (h : FlowAns arcs n gone root v units s) : units ≤ arcs.length := by
  rw [← h.is, entP]
  exact Nat.le_trans List.countP_le_length (by rw [upto_length]; exact Nat.le_refl _)
end
end Go.Am
