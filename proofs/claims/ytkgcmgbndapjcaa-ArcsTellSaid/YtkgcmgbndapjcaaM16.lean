/- Plain law: an arc can always be taken so that enough are left (Edmonds, by Lovasz). -/
import Derived.Test.YtkgcmgbndapjcaaM11
namespace Go.Am
set_option linter.unusedVariables false
set_option linter.unusedSimpArgs false

theorem exists_of_countP_lt {l : List Int} {p q : Int → Bool} (h : l.countP p < l.countP q) : ∃ x ∈ l, q x = true ∧ p x = false := by
  refine Classical.byContradiction fun hno => ?_
  have := List.countP_mono_left (p := q) (q := p) (l := l) fun x hx hq => by
    cases e : p x with
    | true => rfl
    | false => exact absurd ⟨x, hx, hq, e⟩ hno
  omega

section
variable (arcs : List (Int × Int))
/-- How many arcs, not gone, enter a set. -/
def entP (gone T : Int → Bool) : Nat := (upto arcs.length).countP fun i => !gone i && T (hdA arcs i) && !T (tlA arcs i)
/-- A set of vertices without the root. -/
def VSet (n : Nat) (root : Int) (T : Int → Bool) : Prop := T root = false ∧ ∃ u : Int, 0 ≤ u ∧ u < n ∧ T u = true

variable {arcs} {n : Nat} {root : Int} {gone Hs : Int → Bool} {others : Nat}
theorem ent_sub (gone A B : Int → Bool) : entP arcs gone (fun u => A u && B u) + entP arcs gone (fun u => A u || B u) ≤ entP arcs gone A + entP arcs gone B := by
  unfold entP
  generalize upto arcs.length = l
  induction l with
  | nil => simp
  | cons i l ih =>
    dsimp only at ih
    simp only [List.countP_cons]
    cases gone i <;> cases A (hdA arcs i) <;> cases A (tlA arcs i) <;> cases B (hdA arcs i) <;> cases B (tlA arcs i) <;> simp only [Bool.not_true, Bool.not_false, Bool.and_true, Bool.and_false, Bool.true_and, Bool.false_and, Bool.or_true, Bool.or_false, Bool.true_or, Bool.false_or, if_true, Bool.false_eq_true, if_false] <;> omega

/-- One arc less. -/
theorem ent_take {i : Int} (h0 : 0 ≤ i) (h1 : i < arcs.length) (hg : gone i = false) (T : Int → Bool) :
    entP arcs gone T = entP arcs (setF gone i true) T + if T (hdA arcs i) && !T (tlA arcs i) then 1 else 0 := by
  have hi : i ∈ upto arcs.length := mem_upto.2 ⟨h0, h1⟩
  have hn : (upto arcs.length).Nodup := nodup_upto _
  unfold entP
  generalize upto arcs.length = l at hi hn
  induction l with
  | nil => cases hi
  | cons a l ih =>
    obtain ⟨n1, n2⟩ := List.nodup_cons.1 hn
    simp only [List.countP_cons]
    by_cases e : a = i
    · subst e
      have : l.countP (fun x => !gone x && T (hdA arcs x) && !T (tlA arcs x)) = l.countP fun x => !setF gone a true x && T (hdA arcs x) && !T (tlA arcs x) :=
        List.countP_congr fun x hx => by rw [setF_ne _ _ (fun e => by subst e; exact n1 hx)]
      rw [this, setF_same, hg]
      simp
    · have hi' : i ∈ l := by
        rcases List.mem_cons.1 hi with h | h
        · exact absurd h.symm e
        · exact h
      have := ih hi' n2
      rw [setF_ne _ _ e]
      omega

theorem edmonds_step (hin : ∀ i : Int, 0 ≤ i → i < arcs.length → (0 ≤ tlA arcs i ∧ tlA arcs i < n) ∧ 0 ≤ hdA arcs i ∧ hdA arcs i < n) (hr : Hs root = true)
    (hP : ∀ T, VSet n root T → others ≤ entP arcs gone T) (hQ : ∀ T, VSet n root T → (∀ u, T u = true → Hs u = false) → others + 1 ≤ entP arcs gone T) (hout : ∃ u : Int, 0 ≤ u ∧ u < n ∧ Hs u = false) :
    ∃ i : Int, 0 ≤ i ∧ i < arcs.length ∧ gone i = false ∧ Hs (tlA arcs i) = true ∧ Hs (hdA arcs i) = false ∧ ∀ T, VSet n root T → others ≤ entP arcs (setF gone i true) T := by
  refine Classical.byContradiction fun hno => ?_
  -- an arc out of Hs breaks some tight set that it enters
  have hbreak : ∀ i : Int, 0 ≤ i → i < arcs.length → gone i = false → Hs (tlA arcs i) = true → Hs (hdA arcs i) = false → ∃ B, VSet n root B ∧ entP arcs gone B = others ∧ B (hdA arcs i) = true ∧ B (tlA arcs i) = false := by
    intro i a b c d e
    refine Classical.byContradiction fun hnb => hno ⟨i, a, b, c, d, e, fun T hT => ?_⟩
    have h1 := ent_take a b c T
    have h2 := hP T hT
    by_cases hc : (T (hdA arcs i) && !T (tlA arcs i)) = true
    · rw [if_pos hc] at h1
      rw [Bool.and_eq_true, Bool.not_eq_true'] at hc
      by_cases he : entP arcs gone T = others
      · exact absurd ⟨T, hT, he, hc.1, hc.2⟩ hnb
      · omega
    · rw [if_neg hc] at h1; omega
  -- no tight set has a vertex outside
  have hnone : ∀ (N : Nat) (A : Int → Bool), (upto n).countP A ≤ N → VSet n root A → entP arcs gone A = others → (∃ u : Int, 0 ≤ u ∧ u < n ∧ A u = true ∧ Hs u = false) → False := by
    intro N
    induction N using Nat.strongRecOn with
    | _ N ih =>
    intro A hN hA ht ⟨w, w0, wn, wA, wH⟩
    have h1 := hQ (fun u => A u && !Hs u) ⟨by simp [hr], w, w0, wn, by simp [wA, wH]⟩ (fun u hu => by simp at hu; exact hu.2)
    obtain ⟨i, hi, hq, hp⟩ := exists_of_countP_lt (l := upto arcs.length) (p := fun i => !gone i && A (hdA arcs i) && !A (tlA arcs i)) (q := fun i => !gone i && (A (hdA arcs i) && !Hs (hdA arcs i)) && !(A (tlA arcs i) && !Hs (tlA arcs i))) (by
      have a1 : entP arcs gone A = (upto arcs.length).countP fun i => !gone i && A (hdA arcs i) && !A (tlA arcs i) := rfl
      have a2 : entP arcs gone (fun u => A u && !Hs u) = (upto arcs.length).countP fun i => !gone i && (A (hdA arcs i) && !Hs (hdA arcs i)) && !(A (tlA arcs i) && !Hs (tlA arcs i)) := rfl
      omega)
    obtain ⟨i0, i1⟩ := mem_upto.1 hi
    have hf : gone i = false ∧ A (hdA arcs i) = true ∧ Hs (hdA arcs i) = false ∧ A (tlA arcs i) = true ∧ Hs (tlA arcs i) = true := by
      revert hq hp
      cases gone i <;> cases A (hdA arcs i) <;> cases Hs (hdA arcs i) <;> cases A (tlA arcs i) <;> cases Hs (tlA arcs i) <;> simp
    obtain ⟨f1, f2, f3, f4, f5⟩ := hf
    obtain ⟨B, hB, htB, b1, b2⟩ := hbreak i i0 i1 f1 f5 f3
    obtain ⟨ht', hh'⟩ := hin i i0 i1
    have s1 := ent_sub (arcs := arcs) gone A B
    have s2 := hP (fun u => A u && B u) ⟨by simp [hA.1], _, hh'.1, hh'.2, by simp [f2, b1]⟩
    have s3 := hP (fun u => A u || B u) ⟨by simp [hA.1, hB.1], _, hh'.1, hh'.2, by simp [f2]⟩
    have hlt : (upto n).countP (fun u => A u && B u) < (upto n).countP A := by
      have hle := List.countP_mono_left (p := fun u => A u && B u) (q := A) (l := upto n) fun x _ hx => by simp at hx; exact hx.1
      refine Nat.lt_of_le_of_ne hle fun e => ?_
      have hmem : tlA arcs i ∈ upto n := mem_upto.2 ht'
      have : ∀ l : List Int, (tlA arcs i ∈ l) → l.countP (fun u => A u && B u) < l.countP A := by
        intro l
        induction l with
        | nil => intro h; cases h
        | cons x l ih2 =>
          intro hx
          have hle2 := List.countP_mono_left (p := fun u => A u && B u) (q := A) (l := l) fun x _ hx => by simp at hx; exact hx.1
          rw [List.countP_cons, List.countP_cons]
          rcases List.mem_cons.1 hx with h | h
          · subst h; simp [f4, b2]; omega
          · have := ih2 h
            cases A x <;> cases B x <;> simp <;> omega
      have := this _ hmem
      omega
    exact ih _ (by omega) (fun u => A u && B u) (Nat.le_refl _) ⟨by simp [hA.1], _, hh'.1, hh'.2, by simp [f2, b1]⟩ (by omega) ⟨_, hh'.1, hh'.2, by simp [f2, b1], f3⟩
  -- some arc leads out
  obtain ⟨u, u0, un, uH⟩ := hout
  have h1 := hQ (fun u => !Hs u) ⟨by simp [hr], u, u0, un, by simp [uH]⟩ (fun u hu => by simpa using hu)
  have hpos : 0 < (upto arcs.length).countP fun i => !gone i && !Hs (hdA arcs i) && !!Hs (tlA arcs i) := by
    have a2 : entP arcs gone (fun u => !Hs u) = (upto arcs.length).countP fun i => !gone i && !Hs (hdA arcs i) && !!Hs (tlA arcs i) := rfl
    omega
  obtain ⟨i, hi, hq⟩ := List.countP_pos_iff.1 hpos
  obtain ⟨i0, i1⟩ := mem_upto.1 hi
  simp only [Bool.and_eq_true, Bool.not_eq_true', Bool.not_not] at hq
  obtain ⟨ht', hh'⟩ := hin i i0 i1
  obtain ⟨B, hB, htB, b1, b2⟩ := hbreak i i0 i1 hq.1.1 hq.2 hq.1.2
  exact hnone _ B (Nat.le_refl _) hB htB ⟨_, hh'.1, hh'.2, b1, hq.1.2⟩
end
end Go.Am
