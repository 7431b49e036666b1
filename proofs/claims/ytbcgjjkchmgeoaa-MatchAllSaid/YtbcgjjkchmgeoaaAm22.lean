/- The abstract machine, part 22: loops with a number of their own that falls; calls that hand out a new array; calls at one heap. -/
import Derived.Test.YtbcgjjkchmgeoaaAm19
namespace Go.Am
open Go
set_option linter.unusedVariables false

section
variable {P : Program} {w0 : World} {nt : Nat}

theorem least_of (T : Nat → Prop) (h : ∃ n, T n) : ∃ n, T n ∧ ∀ m, T m → n ≤ m := by
  obtain ⟨n, hn⟩ := h
  induction n using Nat.strongRecOn with
  | _ n ih =>
    by_cases hm : ∃ m, m < n ∧ T m
    · obtain ⟨m, hlt, hT⟩ := hm; exact ih m hlt hT
    · exact ⟨n, hn, fun m hT => by
        rcases Nat.lt_or_ge m n with h | h
        · exact absurd ⟨m, h, hT⟩ hm
        · exact h⟩

/-- A loop: J n holds ahead of each round, with an n that falls. -/
theorem awp_loop_g {c : Code} {Q : Exit → Env → Heap → Prop} {env : Env} {H : Heap} (J : Nat → Env → Heap → Prop) (h0 : ∃ n, J n env H)
    (round : ∀ n env H, J n env H → AWP P w0 nt c (Then (fun env' H' => ∃ m, m < n ∧ J m env' H') Q) env H) : AWP P w0 nt (.loop c) Q env H := by
  have dec : ∀ e h, Decidable (∃ n, J n e h) := fun e h => Classical.propDecidable _
  let μ : Env → Heap → Nat := fun e h => if x : ∃ n, J n e h then Classical.choose (least_of _ x) else 0
  have hμ : ∀ e h, (x : ∃ n, J n e h) → J (μ e h) e h ∧ ∀ m, J m e h → μ e h ≤ m := by
    intro e h x
    have := Classical.choose_spec (least_of _ x)
    simp only [μ, dif_pos x]
    exact this
  refine awp_loop (fun e h => ∃ n, J n e h) μ h0 fun e h x => ?_
  obtain ⟨a, b⟩ := hμ e h x
  refine AWP.mono (round _ e h a) fun ex e' h' q => ?_
  cases ex with
  | normal =>
    obtain ⟨m, hm, j⟩ := q
    exact ⟨⟨m, j⟩, Nat.lt_of_le_of_lt ((hμ e' h' ⟨m, j⟩).2 m j) hm⟩
  | _ => exact q

/-- The call hands out a new array. -/
def RetNew (P : Program) (w0 : World) (f : FuncId) (args : List AV) (es : Nat) (e : TypeId) (cells : List AV) (n : Nat) : Prop :=
  ∀ H, ACalls P w0 f args H (fun v H' => ∃ r, H r = none ∧ v = .ref r 0 n n ∧ Sub (upd H r (some (.arr es e cells n))) H')

theorem RetNew.use {f : FuncId} {args : List AV} {es : Nat} {e : TypeId} {cells : List AV} {n : Nat} (h : RetNew P w0 f args es e cells n) {H : Heap} {K : AV → Heap → Prop}
    (k : ∀ r, H r = none → K (.ref r 0 n n) (upd H r (some (.arr es e cells n)))) : ACalls P w0 f args H K := by
  refine (h H).drop ?_
  rintro v H' ⟨r, hr, rfl, s⟩
  exact ⟨_, s, k r hr⟩

theorem RetNew.ret {f : FuncId} {args : List AV} {es : Nat} {e : TypeId} {cells : List AV} {n : Nat} {x : AV} (h : RetNew P w0 f args es e cells n) (hx : cut es cells 0 n = x) : Ret P w0 f args x := by
  intro H
  refine ret_frz (h.use fun r hr => ?_)
  exact frz hr rfl rfl hx

/-- The call answers x at this heap. -/
def RetAt (P : Program) (w0 : World) (f : FuncId) (args : List AV) (x : AV) (H : Heap) : Prop := ∀ K : AV → Heap → Prop, K x H → ACalls P w0 f args H K
theorem RetAt.use {f : FuncId} {args : List AV} {x : AV} {H : Heap} (h : RetAt P w0 f args x H) {K : AV → Heap → Prop} (k : K x H) : ACalls P w0 f args H K := h K k
theorem Ret.at {f : FuncId} {args : List AV} {x : AV} (h : Ret P w0 f args x) (H : Heap) : RetAt P w0 f args x H := fun K k => h.use k
theorem RetAt.of {f : FuncId} {args : List AV} {x : AV} {H : Heap} (h : ACalls P w0 f args H (fun v H' => v = x ∧ Sub H H')) : RetAt P w0 f args x H := fun K k => h.drop fun v H' ⟨a, s⟩ => ⟨H, s, by rw [a]; exact k⟩
end
end Go.Am
