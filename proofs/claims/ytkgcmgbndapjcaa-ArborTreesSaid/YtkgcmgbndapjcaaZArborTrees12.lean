/- Contracts and plain laws that the law ArborTrees needs, part 12. -/
import Derived.Test.YtkgcmgbndapjcaaZArborTrees11
import Derived.JoinedOf
namespace Go.Am
open Go
theorem signs_of {s : String} {l : List Char} (h : s = String.ofList l) (k : behindMainWord (wordsSigns l) = "cut".toList :: (wordsSigns l).drop 3) : ∃ r, behindMainWord (wordsSigns s.toList) = "cut".toList :: r := by
  subst h; rw [String.toList_ofList]; exact ⟨_, k⟩
theorem strip_cut (r : List (List Char)) : stripLifts liftWords ("cut".toList :: r) = ([], "cut".toList :: r) := by
  have h : ∀ l : List String, (l.all fun o => !("cut".toList == o.toList)) = true → stripLifts l ("cut".toList :: r) = ([], "cut".toList :: r) := by
    intro l
    induction l with
    | nil => intro _; rfl
    | cons o l ih =>
      intro h
      simp only [List.all_cons, Bool.and_eq_true, Bool.not_eq_true'] at h
      rw [stripLifts, if_neg (by rw [h.1]; decide)]
      exact ih h.2
  exact h _ (by decide +kernel)
section
variable {P : Program} (h : ∃ r, behindMainWord (wordsSigns P.initOrder.toList) = "cut".toList :: r)
include h
theorem headLifts_cut : P.headLifts = [] := by
  obtain ⟨r, h⟩ := h
  unfold Program.headLifts
  rw [h, strip_cut]
  rfl
theorem mayEnter_cut (h1 : P.laysLater = false) (h2 : P.bearsReflect = false) (h3 : P.doorRows = []) : P.mayEnter = true := by
  obtain ⟨r, h⟩ := h
  unfold Program.mayEnter Program.doorFits
  rw [h, h1, h2, h3]
  simp only [strip_cut]
  have e1 : ("cut".toList == "gc".toList) = false := by decide +kernel
  have e2 : ("cut".toList == "spec".toList) = false := by decide +kernel
  have e3 : ("cut".toList == "carried".toList) = false := by decide +kernel
  simp only [e1, e2, e3, Bool.false_or, Bool.false_and]
  simp
theorem make_cut : P.make = some .cut := by
  obtain ⟨r, h⟩ := h
  unfold Program.make
  rw [h]
  simp
theorem liftsFinal_cut : P.liftsFinal = false := by
  have h0 := headLifts_cut h
  obtain ⟨r, h⟩ := h
  unfold Program.liftsFinal
  rw [h0, h]
  simp
end
end Go.Am
namespace Go.Am
open Go Go.RowKit Go.ChangeShapes Go.WideShapes Go.Deep
set_option linter.unusedVariables false
section
variable {H : Type} {enc : TypeId × Value → H} {P : Program} {w0 : World}
def OpensArg (H : Type) (enc : TypeId × Value → H) (P : Program) (w0 : World) (t : TypeId) {α : Type} (g : α → AV) (Q : α → Prop) : Prop :=
  ∀ base v (d : DataW H) ps, DataW.Trod enc P w0 0 (fun _ => true) true t v d ps → Value.okWide P w0 .any base t v → (∀ n ∈ d.weights P t, n ≤ reachBytes) → ∃ x, VR (FW w0) MW (g x) v ∧ Q x
theorem VRL.one' {F : Ft} {M : Mt} {a : AV} {v : Value} (h : VRL F M [a] [v]) : VR F M a v := h.2 0 a v rfl rfl
theorem OpensArg.one {t : TypeId} {α : Type} {g : α → AV} {Q : α → Prop} (h : Opens H enc P w0 t (fun x => [g x]) Q) (hv : ∀ base v, Value.okWide P w0 .any base t v → v.cells = #[v]) : OpensArg H enc P w0 t g Q := by
  intro base v d ps ht hok hw
  obtain ⟨fuel, hf⟩ := ht
  obtain ⟨x, h1, _, h3⟩ := h fuel _ d ps hf hw
  rw [hv base v hok] at h1
  exact ⟨x, h1.one', h3⟩
theorem OpensArg.map {t : TypeId} {α β : Type} {f : α → AV} {Q : α → Prop} {g : β → AV} {R : β → Prop} (u : α → β) (h : OpensArg H enc P w0 t f Q) (hf : ∀ x, Q x → g (u x) = f x) (hq : ∀ x, Q x → R (u x)) : OpensArg H enc P w0 t g R := by
  intro base v d ps ht ho hw
  obtain ⟨x, h1, h2⟩ := h base v d ps ht ho hw
  exact ⟨u x, by rw [hf x h2]; exact h1, hq x h2⟩
theorem opens_ints {t e : TypeId} (ht : P.underlying t = some (.slice e)) (he : P.underlying e = some (.int .i64)) (hc : 0 < P.cellsOf e) (hb : P.bytesOf e = 8) :
    Opens H enc P w0 t (fun l : List Int => [ints l]) (fun l => l.length ≤ 17592186044416 ∧ ∀ x ∈ l, (Lit.int .i64 x).wf = true) := by
  refine opens_map id (opens_slice ht (opens_int he) hc) (fun l h => ?_) (fun l h => ?_)
  · have : (l.flatMap fun n => [I n]) = l.map I := by clear h; induction l <;> simp_all
    simp only [id, ints, ← this]
  · rw [hb] at h
    unfold reachBytes at h
    refine ⟨?_, h.2⟩
    show l.length ≤ _
    have := h.1
    omega
theorem arg_ints {t e : TypeId} (ht : P.underlying t = some (.slice e)) (he : P.underlying e = some (.int .i64)) (hc : 0 < P.cellsOf e) (hb : P.bytesOf e = 8) :
    OpensArg H enc P w0 t (fun l : List Int => ints l) (fun l => l.length ≤ 17592186044416 ∧ ∀ x ∈ l, (Lit.int .i64 x).wf = true) :=
  OpensArg.one (opens_ints ht he hc hb) fun base v h => by obtain ⟨a, l, c, rfl⟩ := okWide_slice ht h; rfl
theorem Ret.walks {n : FuncId} {args : List AV} (h : Ret P w0 n args (B true)) : ACalls P w0 n args HW (fun v _ => v = B true) := h.use rfl
section
variable {n : FuncId} {t1 t2 t3 t4 : TypeId} {α β γ δ : Type} {g1 : α → AV} {g2 : β → AV} {g3 : γ → AV} {g4 : δ → AV} {Q1 : α → Prop} {Q2 : β → Prop} {Q3 : γ → Prop} {Q4 : δ → Prop}
theorem walks2 (h1 : ∀ w0, OpensArg H enc P w0 t1 g1 Q1) (h2 : ∀ w0, OpensArg H enc P w0 t2 g2 Q2) (k : ∀ w0 x y, Q1 x → Q2 y → Ret P w0 n [g1 x, g2 y] (B true)) : Walks H enc P n [t1, t2] := by
  intro w0 base cargs ds ps hA hval hz
  obtain ⟨v0, vs0, d0, ds0, p0, q0, hargs, rfl, rfl, a0, r0⟩ := trodAll_cons hA
  obtain ⟨v1, vs1, d1, ds1, p1, q1, rfl, rfl, rfl, a1, r1⟩ := trodAll_cons r0
  obtain ⟨rfl, rfl, rfl⟩ := trodAll_nil r1
  obtain rfl : cargs = #[v0, v1] := Array.ext' hargs
  obtain ⟨x, e1, q1⟩ := h1 w0 base v0 d0 p0 a0 (hval 0 _ v0 (by simp) (by simp)) (fun n hn => hz n (by simp [DataW.weightsEach, hn]))
  obtain ⟨y, e2, q2⟩ := h2 w0 base v1 d1 p1 a1 (hval 1 _ v1 (by simp) (by simp)) (fun n hn => hz n (by simp [DataW.weightsEach, hn]))
  exact ⟨[g1 x, g2 y], .cons e1 (.cons e2 .nil), (k w0 x y q1 q2).walks⟩
end
end
end Go.Am
