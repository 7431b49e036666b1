/- Plain law: the algebra of sets. -/
import Derived.Test.YtbcgjjkchmgeoaaM2
namespace Go.Am
set_option linter.unusedVariables false

section
variable {a b c : List Int} (ha : IsSet a) (hb : IsSet b) (hc : IsSet c)
include ha hb
theorem IsSet.union : IsSet (unionL a b) := (unionL_spec ha hb).1
theorem IsSet.meet : IsSet (meetL a b) := (meetL_spec ha hb).1
theorem IsSet.minus : IsSet (minusL a b) := (minusL_spec ha hb).1
theorem mem_unionL {x : Int} : x ∈ unionL a b ↔ x ∈ a ∨ x ∈ b := (unionL_spec ha hb).2 x
theorem mem_meetL {x : Int} : x ∈ meetL a b ↔ x ∈ a ∧ x ∈ b := (meetL_spec ha hb).2 x
theorem mem_minusL {x : Int} : x ∈ minusL a b ↔ x ∈ a ∧ x ∉ b := (minusL_spec ha hb).2 x

theorem union_comm' : unionL b a = unionL a b := (hb.union ha).ext (ha.union hb) fun x => by rw [mem_unionL hb ha, mem_unionL ha hb]; exact Or.comm
theorem meet_comm' : meetL b a = meetL a b := (hb.meet ha).ext (ha.meet hb) fun x => by rw [mem_meetL hb ha, mem_meetL ha hb]; exact And.comm
include hc
theorem union_assoc' : unionL (unionL a b) c = unionL a (unionL b c) := ((ha.union hb).union hc).ext (ha.union (hb.union hc)) fun x => by
  rw [mem_unionL (ha.union hb) hc, mem_unionL ha hb, mem_unionL ha (hb.union hc), mem_unionL hb hc]; exact or_assoc
theorem meet_assoc' : meetL (meetL a b) c = meetL a (meetL b c) := ((ha.meet hb).meet hc).ext (ha.meet (hb.meet hc)) fun x => by
  rw [mem_meetL (ha.meet hb) hc, mem_meetL ha hb, mem_meetL ha (hb.meet hc), mem_meetL hb hc]; exact and_assoc
theorem meet_union' : meetL (unionL a b) c = unionL (meetL a c) (meetL b c) := ((ha.union hb).meet hc).ext ((ha.meet hc).union (hb.meet hc)) fun x => by
  rw [mem_meetL (ha.union hb) hc, mem_unionL ha hb, mem_unionL (ha.meet hc) (hb.meet hc), mem_meetL ha hc, mem_meetL hb hc]; exact or_and_right
theorem minus_union' : minusL (unionL a b) c = unionL (minusL a c) (minusL b c) := ((ha.union hb).minus hc).ext ((ha.minus hc).union (hb.minus hc)) fun x => by
  rw [mem_minusL (ha.union hb) hc, mem_unionL ha hb, mem_unionL (ha.minus hc) (hb.minus hc), mem_minusL ha hc, mem_minusL hb hc]; exact or_and_right
omit hc
theorem cut_union' : unionL (minusL a b) (meetL a b) = a := ((ha.minus hb).union (ha.meet hb)).ext ha fun x => by
  rw [mem_unionL (ha.minus hb) (ha.meet hb), mem_minusL ha hb, mem_meetL ha hb]
  by_cases h : x ∈ b <;> simp [h]
theorem meet_sub' : meetL (meetL a b) a = meetL a b := ((ha.meet hb).meet ha).ext (ha.meet hb) fun x => by
  rw [mem_meetL (ha.meet hb) ha, mem_meetL ha hb]
  by_cases h : x ∈ a <;> simp [h]
theorem sub_union' : meetL a (unionL a b) = a := (ha.meet (ha.union hb)).ext ha fun x => by
  rw [mem_meetL ha (ha.union hb), mem_unionL ha hb]
  by_cases h : x ∈ a <;> simp [h]
theorem meet_minus' : meetL (meetL a b) (minusL a b) = [] := ((ha.meet hb).meet (ha.minus hb)).ext .nil fun x => by
  rw [mem_meetL (ha.meet hb) (ha.minus hb), mem_minusL ha hb, mem_meetL ha hb]
  by_cases h : x ∈ b <;> simp [h]
theorem meet_union_minus' : unionL (meetL a b) (minusL a b) = a := ((ha.meet hb).union (ha.minus hb)).ext ha fun x => by
  rw [mem_unionL (ha.meet hb) (ha.minus hb), mem_minusL ha hb, mem_meetL ha hb]
  by_cases h : x ∈ b <;> simp [h]

theorem len_meet' : (meetL a b).length + (minusL a b).length = a.length := by
  rw [meetL_eq ha hb, minusL_eq ha hb]
  clear ha hb
  induction a with
  | nil => rfl
  | cons x a ih => by_cases h : x ∈ b <;> simp [h] <;> omega
theorem len_union' : (unionL a b).length = (minusL a b).length + b.length := by
  have h : (unionL a b).Perm (minusL a b ++ b) := by
    rw [List.perm_ext_iff_of_nodup (ha.union hb).nodup]
    · intro x
      rw [mem_unionL ha hb, List.mem_append, mem_minusL ha hb]
      by_cases h : x ∈ b <;> simp [h]
    · rw [List.nodup_append]
      refine ⟨(ha.minus hb).nodup, hb.nodup, fun x hx y hy e => ?_⟩
      subst e
      exact ((mem_minusL ha hb).1 hx).2 hy
  rw [h.length_eq, List.length_append]
theorem meet_len_le : (meetL a b).length ≤ a.length := by have := len_meet' ha hb; omega
theorem minus_len_le : (minusL a b).length ≤ a.length := by have := len_meet' ha hb; omega
theorem union_len_le : (unionL a b).length ≤ a.length + b.length := by have := len_union' ha hb; have := minus_len_le ha hb; omega
theorem meet_all' : decide ((meetL a b).length = a.length) = a.all fun x => decide (x ∈ b) := by
  rw [Bool.eq_iff_iff, decide_eq_true_iff, List.all_eq_true, meetL_eq ha hb]
  rw [List.length_filter_eq_length_iff]
end

theorem union_R (a b : List Int) : unionL a b = unionR a b := by
  cases ha : risesB (-1) a with
  | false => simp [unionL, unionR, ha]
  | true =>
    cases hb : risesB (-1) b with
    | false => simp [unionL, unionR, ha, hb]
    | true => exact unionL_eq (rises_iff.1 ha) (rises_iff.1 hb)
theorem meet_R (a b : List Int) : (if risesB (-1) a && risesB (-1) b then a.filter (fun x => decide (x ∈ b)) else []) = meetL a b := by
  cases ha : risesB (-1) a with
  | false => simp [meetL, ha]
  | true =>
    cases hb : risesB (-1) b with
    | false => simp [meetL, ha, hb]
    | true => simpa using (meetL_eq (rises_iff.1 ha) (rises_iff.1 hb)).symm
theorem minus_R (a b : List Int) : (if risesB (-1) a && risesB (-1) b then a.filter (fun x => !decide (x ∈ b)) else []) = minusL a b := by
  cases ha : risesB (-1) a with
  | false => simp [minusL, ha]
  | true =>
    cases hb : risesB (-1) b with
    | false => simp [minusL, ha, hb]
    | true => simpa using (minusL_eq (rises_iff.1 ha) (rises_iff.1 hb)).symm
theorem sub_R (a b : List Int) : (risesB (-1) a && risesB (-1) b && a.all fun x => decide (x ∈ b)) = (risesB (-1) a && risesB (-1) b && decide ((meetL a b).length = a.length)) := by
  cases ha : risesB (-1) a with
  | false => simp
  | true =>
    cases hb : risesB (-1) b with
    | false => simp
    | true => rw [meet_all' (rises_iff.1 ha) (rises_iff.1 hb)]
end Go.Am
