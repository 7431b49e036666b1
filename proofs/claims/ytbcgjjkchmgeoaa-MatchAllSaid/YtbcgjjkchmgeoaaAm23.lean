/- The abstract machine, part 23: what is told of a slot, told more weakly. -/
import Derived.Test.YtbcgjjkchmgeoaaAm22
namespace Go.Am
open Go
set_option linter.unusedVariables false

section
variable {P : Program} {w0 : World} {nt : Nat}

/-- Whatever stands for a stands for b. -/
def Wks (a b : AV) : Prop := ∀ F M cv, VR F M a cv → VR F M b cv
theorem Wks.refl (a : AV) : Wks a a := fun _ _ _ h => h
theorem Wks.nil : Wks (.sc (.slice none 0 0)) (.sl [] 0) := by
  intro F M cv h
  have := h.sc_inv
  subst this
  exact .sl0
theorem Wks.sl {c c' : List AV} {n : Nat} (hl : c'.length = c.length) (h : ∀ (i : Nat) (a b : AV), c[i]? = some a → c'[i]? = some b → Wks a b ∧ b.one = true) : Wks (.sl c n) (.sl c' n) := by
  intro F M cv hv
  cases hv with
  | sl f hF hn h1 h2 ho =>
    refine .sl f hF hn (fun i b hb => ?_) (fun i b hb => ?_) (fun i b hb => ?_)
    · have hi : i < c.length := by rw [← hl]; exact (List.getElem?_eq_some_iff.1 hb).1
      exact h1 i c[i] (by simp [hi])
    · have hi : i < c.length := by rw [← hl]; exact (List.getElem?_eq_some_iff.1 hb).1
      exact (h i c[i] b (by simp [hi]) hb).1 _ _ _ (h2 i c[i] (by simp [hi]))
    · have hi : i < c.length := by rw [← hl]; exact (List.getElem?_eq_some_iff.1 hb).1
      exact (h i c[i] b (by simp [hi]) hb).2
  | sl0 =>
    have : c' = [] := List.length_eq_zero_iff.1 (by simpa using hl)
    subst this
    exact .sl0

theorem awp_wks {c : Code} {Q : Exit → Env → Heap → Prop} {env : Env} {H : Heap} (s : Nat) {b : AV} (hb : Wks (env s) b) (h : ∀ env', env' s = b → (∀ i, i ≠ s → env' i = env i) → AWP P w0 nt c Q env' H) : AWP P w0 nt c Q env H := by
  intro w F M a rel er
  have er' : EnvR F M nt (upd env s b) a := by
    refine ⟨er.size, er.defers, fun i => ?_⟩
    by_cases hi : i = s
    · subst hi
      rw [upd_same]
      exact hb _ _ _ (er.slot i)
    · rw [upd_ne _ _ _ hi]; exact er.slot i
  exact h _ (upd_same _ _ _) (fun i hi => upd_ne _ _ _ hi) w F M a rel er'

/-- The same of a call's arguments. -/
theorem ACalls.wks {f : FuncId} {args args' : List AV} {H : Heap} {K : AV → Heap → Prop} (hl : args'.length = args.length) (hw : ∀ (i : Nat) (a b : AV), args[i]? = some a → args'[i]? = some b → Wks a b) (h : ACalls P w0 f args' H K) : ACalls P w0 f args H K := by
  refine ⟨h.1, fun w F M cargs hr hv => h.2 w F M cargs hr ⟨by rw [hl]; exact hv.1, fun i b cv hb hc => ?_⟩⟩
  have hi : i < args.length := by rw [← hl]; exact (List.getElem?_eq_some_iff.1 hb).1
  exact hw i args[i] b (by simp [hi]) hb _ _ _ (hv.2 i args[i] cv (by simp [hi]) hc)
end
end Go.Am
