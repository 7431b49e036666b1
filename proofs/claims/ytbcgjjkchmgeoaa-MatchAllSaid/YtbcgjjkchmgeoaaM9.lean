/- Plain law: what is reached from those who have none. -/
import Derived.Test.YtbcgjjkchmgeoaaM8
namespace Go.Am
set_option linter.unusedVariables false

/-- What a walk from i has reached, of the first q that i may go with. -/
structure WQ (m : Nat) (adj : List (List Int)) (g : Int → Int) (i : Int) (q : Nat) (s rd s' rd' : Int → Bool) : Prop where
  le : ∀ k, s k = true → s' k = true
  rle : ∀ j, rd j = true → rd' j = true
  me : rd' i = true
  nb : ∀ y ∈ (nbM adj i).take q, s' y = true
  only : ∀ j, rd' j = true → rd j = true ∨ j = i ∨ ∃ k, s' k = true ∧ s k = false ∧ g k = j
  new : ∀ k, s' k = true → s k = false → 0 ≤ k ∧ k < m ∧ g k ≠ -1 ∧ rd' (g k) = true ∧ ∀ y ∈ nbM adj (g k), s' y = true

section
variable {m : Nat} {adj : List (List Int)} {g : Int → Int} {i : Int} {q : Nat} {s rd s1 rd1 s2 rd2 : Int → Bool}
theorem WQ.start : WQ m adj g i 0 s rd s (setF rd i true) := by
  refine ⟨fun _ h => h, fun j h => ?_, setF_same _ _ _, by simp, fun j h => ?_, fun k h h' => by rw [h] at h'; cases h'⟩
  · by_cases e : j = i
    · subst e; exact setF_same _ _ _
    · rw [setF_ne _ _ e]; exact h
  · by_cases e : j = i
    · exact .inr (.inl e)
    · rw [setF_ne _ _ e] at h; exact .inl h
theorem take_new {l : List Int} {k : Int} (hq : q < l.length) (hk : k = l[q]) {s : Int → Bool} (h : ∀ y ∈ l.take q, s y = true) (hs : s k = true) : ∀ y ∈ l.take (q + 1), s y = true := by
  intro y hy
  rw [List.take_succ_eq_append_getElem hq, List.mem_append, List.mem_singleton] at hy
  rcases hy with hy | rfl
  · exact h y hy
  · rw [← hk]; exact hs
theorem WQ.seen (h : WQ m adj g i q s rd s1 rd1) (hq : q < (nbM adj i).length) {k : Int} (hk : k = (nbM adj i)[q]) (hs : s1 k = true) : WQ m adj g i (q + 1) s rd s1 rd1 :=
  ⟨h.le, h.rle, h.me, take_new hq hk h.nb hs, h.only, h.new⟩
theorem WQ.go (h : WQ m adj g i q s rd s1 rd1) (hq : q < (nbM adj i).length) {k : Int} (hk : k = (nbM adj i)[q]) (h0 : 0 ≤ k) (hm : k < m) (hs : s1 k = false) (hg : g k ≠ -1)
    (h2 : WQ m adj g (g k) (nbM adj (g k)).length (setF s1 k true) rd1 s2 rd2) : WQ m adj g i (q + 1) s rd s2 rd2 := by
  have hup : ∀ j, s1 j = true → s2 j = true := fun j hj => h2.le j (by by_cases e : j = k; (· subst e; exact setF_same _ _ _); (· rw [setF_ne _ _ e]; exact hj))
  have hk2 : s2 k = true := h2.le k (setF_same _ _ _)
  have hsk : s k = false := by
    cases e : s k with
    | false => rfl
    | true => rw [h.le k e] at hs; cases hs
  have hnb := h2.nb
  rw [List.take_length] at hnb
  refine ⟨fun j hj => hup j (h.le j hj), fun j hj => h2.rle j (h.rle j hj), h2.rle i h.me, take_new hq hk (fun y hy => hup y (h.nb y hy)) hk2, fun j hj => ?_, fun j hj hj0 => ?_⟩
  · rcases h2.only j hj with h3 | h3 | ⟨k', a, b, c⟩
    · rcases h.only j h3 with h4 | h4 | ⟨k', a, b, c⟩
      · exact .inl h4
      · exact .inr (.inl h4)
      · exact .inr (.inr ⟨k', hup k' a, b, c⟩)
    · exact .inr (.inr ⟨k, hk2, hsk, h3.symm⟩)
    · refine .inr (.inr ⟨k', a, ?_, c⟩)
      by_cases e : k' = k
      · subst e; exact hsk
      · rw [setF_ne _ _ e] at b
        cases e2 : s k' with
        | false => rfl
        | true => rw [h.le k' e2] at b; cases b
  · by_cases e : j = k
    · subst e; exact ⟨h0, hm, hg, h2.me, hnb⟩
    · cases e1 : s1 j with
      | true =>
        obtain ⟨a, b, c, d, f⟩ := h.new j e1 hj0
        exact ⟨a, b, c, h2.rle _ d, fun y hy => hup y (f y hy)⟩
      | false => exact h2.new j hj (by rw [setF_ne _ _ e]; exact e1)

/-- What is reached, after the first q on the left were looked at. -/
structure CI (m : Nat) (adj : List (List Int)) (f g : Int → Int) (q : Nat) (rd s : Int → Bool) : Prop where
  none : ∀ j : Int, 0 ≤ j → j < q → f j = -1 → rd j = true ∧ ∀ y ∈ nbM adj j, s y = true
  only : ∀ j : Int, rd j = true → (f j = -1 ∧ ∀ y ∈ nbM adj j, s y = true) ∨ ∃ k : Int, 0 ≤ k ∧ k < m ∧ s k = true ∧ g k = j
  seen : ∀ k : Int, s k = true → 0 ≤ k ∧ k < m ∧ g k ≠ -1 ∧ rd (g k) = true ∧ ∀ y ∈ nbM adj (g k), s y = true

theorem CI.start {f : Int → Int} : CI m adj f g 0 (fun _ => false) (fun _ => false) := ⟨fun j a b => by omega, fun j h => (Bool.false_ne_true h).elim, fun k h => (Bool.false_ne_true h).elim⟩
theorem CI.stay {f : Int → Int} (h : CI m adj f g q rd s) (hq : f q = -1 → rd q = true) (hf : Good m adj f g) : CI m adj f g (q + 1) rd s := by
  refine ⟨fun j a b c => ?_, h.only, h.seen⟩
  by_cases e : j = q
  · subst e
    have hr := hq c
    refine ⟨hr, ?_⟩
    rcases h.only _ hr with h1 | ⟨k, a1, a2, a3, a4⟩
    · exact h1.2
    · rcases hf.r k a1 a2 with h2 | ⟨_, _, h2⟩
      · exact absurd h2 (h.seen k a3).2.2.1
      · rw [a4, c] at h2; omega
  · exact h.none j a (by omega) c
theorem CI.go {f : Int → Int} (h : CI m adj f g q rd s) (hq : f q = -1) (w : WQ m adj g q (nbM adj q).length s rd s1 rd1) : CI m adj f g (q + 1) rd1 s1 := by
  have hnb := w.nb
  rw [List.take_length] at hnb
  refine ⟨fun j a b c => ?_, fun j hj => ?_, fun k hk => ?_⟩
  · by_cases e : j = q
    · subst e; exact ⟨w.me, hnb⟩
    · obtain ⟨p, r⟩ := h.none j a (by omega) c
      exact ⟨w.rle j p, fun y hy => w.le y (r y hy)⟩
  · rcases w.only j hj with h1 | h1 | ⟨k, a, b, c⟩
    · rcases h.only j h1 with ⟨h2, h3⟩ | ⟨k, a1, a2, a3, a4⟩
      · exact .inl ⟨h2, fun y hy => w.le y (h3 y hy)⟩
      · exact .inr ⟨k, a1, a2, w.le k a3, a4⟩
    · subst h1; exact .inl ⟨hq, hnb⟩
    · obtain ⟨x, y, _⟩ := w.new k a b
      exact .inr ⟨k, x, y, a, c⟩
  · cases e : s k with
    | true =>
      obtain ⟨a, b, c, d, x⟩ := h.seen k e
      exact ⟨a, b, c, w.rle _ d, fun y hy => w.le y (x y hy)⟩
    | false => exact w.new k hk e
theorem CI.rch {f : Int → Int} (h : CI m adj f g adj.length rd s) : Rch m adj f g rd s :=
  ⟨h.none, fun j _ _ hj => by rcases h.only j hj with h1 | h1; (· exact .inl h1.1); (· exact .inr h1), fun k _ _ hk => by obtain ⟨_, _, a, b, c⟩ := h.seen k hk; exact ⟨a, b, c⟩⟩
end
end Go.Am
