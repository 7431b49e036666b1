/- Contract: the law JoinPath. -/
import Derived.Test.YtkgcmgbndapjcaaB2
namespace Go.Am
open Go Go.Proofs
set_option linter.unusedVariables false
set_option linter.unusedSimpArgs false
variable {w0 : World}
attribute [local irreducible] AWP ACalls
attribute [local congr] acalls_congr

/-- A path's edges. -/
def pathE (k : Nat) : List (Int × Int) := (List.range k).map fun i : Nat => ((i : Int), (i : Int) + 1)
theorem pathE_length (k : Nat) : (pathE k).length = k := by simp [pathE]
theorem pathE_succ (k : Nat) : pathE (k + 1) = pathE k ++ [((k : Int), (k : Int) + 1)] := by simp [pathE, List.range_succ]

theorem compJ_snoc (es : List (Int × Int)) (e : Int × Int) : compJ (es ++ [e]) = stepC (compJ es) e := by simp [compJ, List.foldl_append]

theorem compJ_path (k : Nat) : compJ (pathE k) = (fun w => if w ≤ k then 0 else w, k) := by
  induction k with
  | zero =>
    simp only [pathE, List.range_zero, List.map_nil, compJ, List.foldl_nil]
    congr 1
    funext w
    simp only [id]
    split <;> omega
  | succ k ih =>
    rw [pathE_succ, compJ_snoc, ih]
    simp only [stepC, Int.toNat_natCast]
    have h1 : ((k : Int) + 1).toNat = k + 1 := by omega
    rw [h1]
    have h2 : (if k ≤ k then 0 else k) = 0 := by simp
    have h3 : (if k + 1 ≤ k then 0 else k + 1) = k + 1 := by rw [if_neg (by omega)]
    rw [h2, h3]
    refine Prod.ext ?_ ?_
    · funext w
      simp only
      have hm : max 0 (k + 1) = k + 1 := by omega
      have hn : min 0 (k + 1) = 0 := by omega
      rw [hm, hn]
      split <;> split <;> split <;> omega
    · simp
theorem compJ_ring (k : Nat) : compJ (pathE k ++ [((k : Int), 0)]) = (fun w => if w ≤ k then 0 else w, k) := by
  rw [compJ_snoc, compJ_path]
  simp only [stepC, Int.toNat_natCast]
  refine Prod.ext ?_ ?_
  · funext w
    simp
    omega
  · simp

theorem valid_path {n : Nat} (h1 : 1 ≤ n) (h2 : n ≤ 64) : validG n (pathE (n - 1)) = true := by
  simp only [validG, Bool.and_eq_true, decide_eq_true_eq, pathE_length, List.all_eq_true]
  refine ⟨⟨⟨by omega, by omega⟩, by omega⟩, fun e he => ?_⟩
  simp only [pathE, List.mem_map, List.mem_range] at he
  obtain ⟨i, hi, rfl⟩ := he
  simp only [edgeOk, Bool.and_eq_true, decide_eq_true_eq]
  omega
theorem valid_ring {n : Nat} (h1 : 1 ≤ n) (h2 : n ≤ 64) : validG n (pathE (n - 1) ++ [(((n - 1 : Nat) : Int), 0)]) = true := by
  have := valid_path h1 h2
  simp only [validG, Bool.and_eq_true, decide_eq_true_eq, List.all_append, List.all_cons, List.all_nil, List.length_append, List.length_singleton, pathE_length] at this ⊢
  refine ⟨⟨⟨by omega, by omega⟩, by omega⟩, this.2, ?_⟩
  simp [edgeOk]
  omega

theorem parts_of_path {n : Nat} {c : Nat → Nat} (h1 : 1 ≤ n) (hc : c = fun w => if w ≤ n - 1 then 0 else w) : partsK c n = [upto n] := by
  subst hc
  have hr : rootsK (fun w => if w ≤ n - 1 then 0 else w) n = [0] := by
    have hf : ∀ w, w < n → ((if w ≤ n - 1 then 0 else w) = w ↔ w = 0) := by
      intro w hw
      rw [if_pos (by omega)]
      exact eq_comm
    obtain ⟨m, rfl⟩ : ∃ m, n = m + 1 := ⟨n - 1, by omega⟩
    simp only [rootsK]
    rw [List.range_succ_eq_map, List.filter_cons]
    simp
    intro a ha
    omega
  have hp : partK (fun w => if w ≤ n - 1 then 0 else w) n 0 = upto n := by
    simp only [partK, upto]
    rw [List.filter_eq_self.2]
    · rfl
    · intro w hw
      rw [List.mem_range] at hw
      simp only [decide_eq_true_eq]
      rw [if_pos (by omega)]
  simp [partsK, hr, hp]

end Go.Am
