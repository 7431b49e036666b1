/- The abstract machine, part 20: the closed facts of a row's head, without reckoning on the whole of the head's text. -/
import Derived.Test.YtbcgjjkchmgeoaaAm19
import Derived.JoinedOf
namespace Go.Am
open Go

theorem signs_of {s : String} {l : List Char} (h : s = String.ofList l) (k : behindMainWord (wordsSigns l) = "cut".toList :: (wordsSigns l).drop 3) : ∃ r, behindMainWord (wordsSigns s.toList) = "cut".toList :: r := by
  subst h; rw [String.toList_ofList]; exact ⟨_, k⟩

theorem strip_cut (r : List (List Char)) : stripLifts liftWords ("cut".toList :: r) = ([], "cut".toList :: r) := by
  have h : ∀ l : List String, (l.all fun o => !("cut".toList == o.toList)) = true → stripLifts l ("cut".toList :: r) = ([], "cut".toList :: r) := by
    intro l
    induction l with
    | nil => intro _; rfl
    | cons o l ih =>
      intro h
      simp only [List.all_cons, Bool.and_eq_true, Bool.not_eq_true'] at h
      rw [stripLifts, if_neg (by rw [h.1]; decide)]
      exact ih h.2
  exact h _ (by decide +kernel)

section
variable {P : Program} (h : ∃ r, behindMainWord (wordsSigns P.initOrder.toList) = "cut".toList :: r)
include h
theorem headLifts_cut : P.headLifts = [] := by
  obtain ⟨r, h⟩ := h
  unfold Program.headLifts
  rw [h, strip_cut]
  rfl
theorem mayEnter_cut (h1 : P.laysLater = false) (h2 : P.bearsReflect = false) (h3 : P.doorRows = []) : P.mayEnter = true := by
  obtain ⟨r, h⟩ := h
  unfold Program.mayEnter Program.doorFits
  rw [h, h1, h2, h3]
  simp only [strip_cut]
  have e1 : ("cut".toList == "gc".toList) = false := by decide +kernel
  have e2 : ("cut".toList == "spec".toList) = false := by decide +kernel
  have e3 : ("cut".toList == "carried".toList) = false := by decide +kernel
  simp only [e1, e2, e3, Bool.false_or, Bool.false_and]
  simp
theorem make_cut : P.make = some .cut := by
  obtain ⟨r, h⟩ := h
  unfold Program.make
  rw [h]
  simp
theorem liftsFinal_cut : P.liftsFinal = false := by
  have h0 := headLifts_cut h
  obtain ⟨r, h⟩ := h
  unfold Program.liftsFinal
  rw [h0, h]
  simp
end
end Go.Am
