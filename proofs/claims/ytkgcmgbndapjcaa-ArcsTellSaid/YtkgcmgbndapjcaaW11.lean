/- Contracts: the reference's components, parts, rank, forest. -/
import Derived.Test.YtkgcmgbndapjcaaB3
namespace Go.Am
open Go Go.Proofs
set_option linter.unusedVariables false
set_option linter.unusedSimpArgs false
variable {w0 : World}
attribute [local irreducible] AWP ACalls
attribute [local congr] acalls_congr

/-- Labels, as cells. -/
def labC (m : Nat) (l : Nat → Nat) : List AV := (List.range m).map fun w => I (l w : Int)
theorem labC_length (m : Nat) (l : Nat → Nat) : (labC m l).length = m := by simp [labC]
theorem labC_get {m : Nat} {l : Nat → Nat} {w : Nat} (h : w < m) : (labC m l)[w]? = some (I (l w : Int)) := by simp [labC, h]
theorem labC_at {m : Nat} {l : Nat → Nat} {w : Nat} (h : w < (labC m l).length) : (labC m l)[w] = I (l w : Int) := by simp [labC]
theorem labC_set {m : Nat} {l : Nat → Nat} {u x : Nat} : (labC m l).set u (I (x : Int)) = labC m (fun w => if w = u then x else l w) := by
  refine List.ext_getElem? fun i => ?_
  rw [List.getElem?_set]
  simp only [labC, List.length_map, List.length_range, List.getElem?_map]
  by_cases h : u = i
  · subst h
    by_cases hu : u < m
    · simp [hu]
    · simp [hu]
  · rw [if_neg h]
    by_cases hi : i < m
    · have h' : ¬ i = u := fun e => h e.symm
      simp [hi, h']
    · simp [hi]
theorem labC_rel {m : Nat} {l : Nat → Nat} {e : Int × Int} : ((labC m l).set e.1.toNat (I (min (l e.1.toNat) (l e.2.toNat) : Nat))).set e.2.toNat (I (min (l e.1.toNat) (l e.2.toNat) : Nat)) = labC m (relE l e) := by
  rw [labC_set, labC_set]
  congr 1
  funext w
  simp only [relE]
  by_cases h1 : w = e.2.toNat <;> by_cases h2 : w = e.1.toNat <;> simp [h1, h2]

theorem c_lt {n : Nat} (es : List (Int × Int)) {w : Nat} (h : w < n) : (compJ es).1 w < n := Nat.lt_of_le_of_lt ((compJ_spec es) w).1 h

theorem partsL_len {n : Int} {es : List (Int × Int)} (hv : validG n es = true) : ((partsL n es).length : Int) + (compJ es).2 = n := by
  have hb := belowE_of (n := n.toNat) (es := es)
  obtain ⟨m, rfl, hm1, hm2, hm3⟩ := valid_nat hv
  have := compJ_roots es (hb (by simpa using hv))
  rw [partsL, if_pos hv, partsK_length]
  simp only [Int.toNat_natCast] at this ⊢
  omega

theorem compsL_len {n : Int} (es : List (Int × Int)) : okLen (compsL n es) := by
  unfold compsL
  split
  · rename_i h
    obtain ⟨m, rfl, hm1, hm2, hm3⟩ := valid_nat h
    simp; omega
  · simp
theorem partsL_okLen {n : Int} (es : List (Int × Int)) : okLen (partsL n es) ∧ ∀ p ∈ partsL n es, okLen p := by
  unfold partsL
  split
  · rename_i h
    obtain ⟨m, rfl, hm1, hm2, hm3⟩ := valid_nat h
    rw [Int.toNat_natCast]
    refine ⟨?_, fun p hp => ?_⟩
    · have := rootsK_le (compJ es).1 m
      have := partsK_length (compJ es).1 m
      rw [okLen]; omega
    · obtain ⟨r, hr, rfl⟩ := List.mem_map.1 hp
      have := partK_le (compJ es).1 m r
      rw [okLen]; omega
  · simp

end Go.Am
