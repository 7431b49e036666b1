/- Contracts: whether two sides may be. -/
import Derived.Test.YtkgcmgbndapjcaaW34
import Derived.Test.YtkgcmgbndapjcaaB4
namespace Go.Am
open Go Go.Proofs
set_option linter.unusedVariables false
set_option linter.unusedSimpArgs false
variable {w0 : World}
attribute [local irreducible] AWP ACalls
attribute [local congr] acalls_congr

/-- Whether two sides may be. -/
def mayM (n : Int) (adj : List (List Int)) : Bool := decide (0 ≤ n) && decide (n ≤ 64) && decide (adj.length ≤ 64) && adj.all fun l => ptsB l n

theorem mayM_iff {n : Int} {adj : List (List Int)} : mayM n adj = true ↔ ∃ m : Nat, n = m ∧ GrM m adj := by
  simp only [mayM, ptsB, Bool.and_eq_true, decide_eq_true_eq, List.all_eq_true, rises_iff]
  constructor
  · rintro ⟨⟨⟨h0, h1⟩, h2⟩, h3⟩
    obtain ⟨m, rfl⟩ := Int.eq_ofNat_of_zero_le h0
    exact ⟨m, rfl, h2, by omega, fun l hl => (h3 l hl).1, fun l hl x hx => ⟨((h3 l hl).1.ok x hx).1, (h3 l hl).2 x hx⟩⟩
  · rintro ⟨m, rfl, h1, h2, h3, h4⟩
    exact ⟨⟨⟨by omega, by omega⟩, h1⟩, fun l hl => ⟨h3 l hl, fun x hx => (h4 l hl x hx).2⟩⟩

end Go.Am
