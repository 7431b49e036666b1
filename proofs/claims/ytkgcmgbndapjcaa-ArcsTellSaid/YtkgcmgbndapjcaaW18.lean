/- Contracts: the reference's Path; turned; Path. -/
import Derived.Test.YtkgcmgbndapjcaaW17
namespace Go.Am
open Go Go.Proofs
set_option linter.unusedVariables false
set_option linter.unusedSimpArgs false
variable {w0 : World}
attribute [local irreducible] AWP ACalls
attribute [local congr] acalls_congr

/-- The answer of Path, of whatever lists. -/
def pathA (adj : List (List Int)) (fr to : List Int) : List Int × Bool := if mayG adj && (ptsB fr adj.length && ptsB to adj.length) then pathL adj fr to else ([], false)

theorem way_cons (adj : List (List Int)) (d : Int → Int) (k : Nat) (v : Int) : wayL adj d k v = v :: (wayL adj d k v).drop 1 := by
  cases k <;> simp [wayL]
theorem way_length (adj : List (List Int)) (d : Int → Int) (k : Nat) (v : Int) : (wayL adj d k v).length = k + 1 := by
  induction k generalizing v with
  | zero => rfl
  | succ k ih => simp [wayL, ih]

theorem least_next {adj : List (List Int)} {to : List Int} (hG : Gr adj) (ht : Pts adj.length to) {v : Int} {k : Nat} (hv : 0 ≤ v ∧ v < adj.length) (hd : distL (turnL adj) to v = k + 1) :
    leastL (distL (turnL adj) to) (out adj v) = nextL (distL (turnL adj) to) (out adj v) k ∧ nextL (distL (turnL adj) to) (out adj v) k ∈ out adj v ∧ distL (turnL adj) to (nextL (distL (turnL adj) to) (out adj v) k) = k := by
  obtain ⟨u, hu, hdu⟩ := dt_next hG ht hv (by omega)
  have hex : ∃ u ∈ out adj v, distL (turnL adj) to u = (k : Int) := ⟨u, hu, by omega⟩
  refine ⟨next_least (by omega) (fun x hx => ((out_pts hG v).lt x hx).1) hex (fun u hu h0 => ?_), nextL_spec hex⟩
  have := dt_arc hG ht hv hu h0
  omega

theorem dt_bound {adj : List (List Int)} {to : List Int} (hG : Gr adj) (ht : Pts adj.length to) (v : Int) : -1 ≤ distL (turnL adj) to v ∧ distL (turnL adj) to v ≤ adj.length := by
  rcases dist_cases (turn_gr hG) (pts_turn ht) (v := v) with ⟨d, h1, h2, _⟩ | ⟨h1, _⟩
  · rw [turn_length] at h1; omega
  · omega

end Go.Am
