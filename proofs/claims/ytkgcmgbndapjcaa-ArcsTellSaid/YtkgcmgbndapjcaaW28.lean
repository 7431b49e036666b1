/- Contracts: Compact, the library's Sort on an array, the program's Sort. -/
import Derived.Test.YtkgcmgbndapjcaaW27
import Derived.Test.YtkgcmgbndapjcaaS1
namespace Go.Am
open Go Go.Proofs
set_option linter.unusedVariables false
set_option linter.unusedSimpArgs false
variable {w0 : World}
attribute [local irreducible] AWP ACalls
attribute [local congr] acalls_congr

theorem sortC : SortC Try.prog 55 := fun blk off cap zs w h1 h2 h3 => Any.slices_Sort_int Try.lays189 blk off cap zs w h1 h2 h3

/-- Equal neighbours are one. -/
def compactS (l : List Int) : List Int := l.foldl (fun o x => if o.getLast? = some x then o else o ++ [x]) []
theorem compactS_snoc (l : List Int) (x : Int) : compactS (l ++ [x]) = if (compactS l).getLast? = some x then compactS l else compactS l ++ [x] := by
  unfold compactS; rw [List.foldl_append]; rfl
theorem compactS_last (l : List Int) : (compactS l).getLast? = l.getLast? := by
  induction l using snoc_ind with
  | h0 => rfl
  | h1 l x ih =>
    rw [compactS_snoc]
    split
    · rename_i h; rw [h]; simp
    · simp
theorem compactS_take {l : List Int} {k : Nat} (h0 : 0 < k) (h : k < l.length) : compactS (l.take (k + 1)) = if l[k - 1] = l[k] then compactS (l.take k) else compactS (l.take k) ++ [l[k]] := by
  rw [List.take_succ_eq_append_getElem h, compactS_snoc, compactS_last]
  have : (l.take k).getLast? = some l[k - 1] := by
    rw [List.getLast?_eq_getElem?, List.length_take, List.getElem?_take, if_pos (by omega), List.getElem?_eq_getElem (by omega)]
    congr 2
    omega
  rw [this]
  simp
theorem compactS_spec {l : List Int} : l.Pairwise (· ≤ ·) → (compactS l).Pairwise (· < ·) ∧ ∀ x, x ∈ compactS l ↔ x ∈ l := by
  induction l using snoc_ind with
  | h0 => intro _; simp [compactS]
  | h1 l x ih =>
    intro hp
    rw [List.pairwise_append] at hp
    obtain ⟨h1, h2⟩ := ih hp.1
    rw [compactS_snoc]
    split
    · rename_i h
      refine ⟨h1, fun y => ?_⟩
      rw [h2, List.mem_append, List.mem_singleton]
      constructor
      · exact .inl
      · rintro (h' | rfl)
        · exact h'
        · rw [compactS_last] at h
          exact List.mem_of_getLast? h
    · rename_i h
      refine ⟨?_, fun y => by simp [h2]⟩
      rw [List.pairwise_append]
      refine ⟨h1, by simp, fun y hy z hz => ?_⟩
      simp at hz; subst hz
      have hle := hp.2.2 y ((h2 y).1 hy) z (by simp)
      refine Classical.byContradiction fun hn => h ?_
      have e : y = z := by omega
      subst e
      obtain ⟨i, hi, e⟩ := List.mem_iff_getElem.1 hy
      rw [List.getLast?_eq_getElem?, List.getElem?_eq_getElem (by omega)]
      congr 1
      by_cases e2 : i = (compactS l).length - 1
      · subst e2; exact e
      · have a := List.pairwise_iff_getElem.1 h1 i ((compactS l).length - 1) hi (by omega) (by omega)
        have b := hp.2.2 _ ((h2 _).1 (List.getElem_mem (l := compactS l) (n := (compactS l).length - 1) (by omega))) y (by simp)
        omega
theorem compactS_length (l : List Int) : (compactS l).length ≤ l.length := by
  induction l using snoc_ind with
  | h0 => simp [compactS]
  | h1 l x ih => rw [compactS_snoc]; split <;> simp <;> omega

end Go.Am
