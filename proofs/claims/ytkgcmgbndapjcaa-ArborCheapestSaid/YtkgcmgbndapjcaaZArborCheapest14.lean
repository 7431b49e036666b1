/- Contracts and plain laws that the law ArborCheapest needs, part 14. -/
import Derived.Test.YtkgcmgbndapjcaaZArborCheapest13
namespace Go.Am
open Go Go.RowKit Go.ChangeShapes Go.WideShapes Go.Deep
set_option linter.unusedVariables false
section
variable {H : Type} {enc : TypeId × Value → H} {P : Program} {w0 : World}
theorem opens_pairs {t u e : TypeId} (ht : P.underlying t = some (.slice u)) (hu : P.underlying u = some (.array 2 e)) (he : P.underlying e = some (.int .i64)) (hc : P.cellsOf e = 1) (hcu : P.cellsOf u = 2) (hbu : P.bytesOf u = 16) :
    Opens H enc P w0 t (fun l : List (Int × Int) => [pairs l]) (fun l => l.length ≤ 17592186044416 ∧ ∀ e ∈ l, (Lit.int .i64 e.1).wf = true ∧ (Lit.int .i64 e.2).wf = true) := by
  refine opens_map id (opens_slice ht (opens_pair hu he hc hcu) (by omega)) (fun l h => rfl) (fun l h => ?_)
  rw [hbu] at h
  unfold reachBytes at h
  refine ⟨?_, h.2⟩
  show l.length ≤ _
  have := h.1
  omega
theorem arg_struct4 {t : TypeId} {f0 f1 f2 f3 : Field} {α0 α1 α2 α3 : Type} {g0 : α0 → AV} {g1 : α1 → AV} {g2 : α2 → AV} {g3 : α3 → AV} {Q0 : α0 → Prop} {Q1 : α1 → Prop} {Q2 : α2 → Prop} {Q3 : α3 → Prop}
    (ht : P.underlying t = some (.struct #[f0, f1, f2, f3])) (e0 : f0.offset = 0) (e1 : f1.offset = 1) (e2 : f2.offset = 2) (e3 : f3.offset = 3) (hc : P.cellsOf t = 4)
    (c0 : P.cellsOf f0.type = 1) (c1 : P.cellsOf f1.type = 1) (c2 : P.cellsOf f2.type = 1) (c3 : P.cellsOf f3.type = 1)
    (o0 : Opens H enc P w0 f0.type (fun x => [g0 x]) Q0) (o1 : Opens H enc P w0 f1.type (fun x => [g1 x]) Q1) (o2 : Opens H enc P w0 f2.type (fun x => [g2 x]) Q2) (o3 : Opens H enc P w0 f3.type (fun x => [g3 x]) Q3) :
    OpensArg H enc P w0 t (fun x : α0 × α1 × α2 × α3 => .agg [g0 x.1, g1 x.2.1, g2 x.2.2.1, g3 x.2.2.2]) (fun x => Q0 x.1 ∧ Q1 x.2.1 ∧ Q2 x.2.2.1 ∧ Q3 x.2.2.2) := by
  intro base v d ps htr hok hw
  obtain ⟨fuel, hf⟩ := htr
  unfold Value.okWide at hok
  rw [ht] at hok
  obtain ⟨cs, rfl, hsz, _⟩ := hok
  obtain ⟨xs, n, rfl, hx, hl, hn, hel⟩ := DataW.trod_struct ht hf
  rw [hc] at hsz
  obtain ⟨cl, rfl⟩ : ∃ cl : List Value, cs = cl.toArray := ⟨cs.toList, rfl⟩
  match cl, hsz with
  | [a0, a1, a2, a3], _ =>
  match xs, hn with
  | [x0, x1, x2, x3], _ =>
  have h0 := hel 0 f0 rfl
  have h1 := hel 1 f1 rfl
  have h2 := hel 2 f2 rfl
  have h3 := hel 3 f3 rfl
  rw [e0, c0] at h0
  rw [e1, c1] at h1
  rw [e2, c2] at h2
  rw [e3, c3] at h3
  have hd : d = .agg [x0.1, x1.1, x2.1, x3.1] := congrArg Prod.fst hx
  subst hd
  have hwt : (DataW.agg [x0.1, x1.1, x2.1, x3.1]).weights P t = x0.1.weights P f0.type ++ (x1.1.weights P f1.type ++ (x2.1.weights P f2.type ++ (x3.1.weights P f3.type ++ []))) := by
    rw [DataW.weights, ht]
    rfl
  rw [hwt] at hw
  obtain ⟨y0, r0, s0, q0⟩ := o0 n [a0] x0.1 x0.2 h0 (fun k hk => hw k (by simp [hk]))
  obtain ⟨y1, r1, s1, q1⟩ := o1 n [a1] x1.1 x1.2 h1 (fun k hk => hw k (by simp [hk]))
  obtain ⟨y2, r2, s2, q2⟩ := o2 n [a2] x2.1 x2.2 h2 (fun k hk => hw k (by simp [hk]))
  obtain ⟨y3, r3, s3, q3⟩ := o3 n [a3] x3.1 x3.2 h3 (fun k hk => hw k (by simp [hk]))
  refine ⟨(y0, y1, y2, y3), .agg (fun i => [a0, a1, a2, a3].getD i .nilIface) rfl (fun i av h => ?_) (fun i av h => ?_) (fun i av h => ?_), q0, q1, q2, q3⟩
  · match i with
    | 0 | 1 | 2 | 3 => rfl
    | i + 4 => simp at h
  · match i with
    | 0 => simp at h; subst h; exact r0.one'
    | 1 => simp at h; subst h; exact r1.one'
    | 2 => simp at h; subst h; exact r2.one'
    | 3 => simp at h; subst h; exact r3.one'
    | i + 4 => simp at h
  · match i with
    | 0 => simp at h; subst h; exact s0 _ (by simp)
    | 1 => simp at h; subst h; exact s1 _ (by simp)
    | 2 => simp at h; subst h; exact s2 _ (by simp)
    | 3 => simp at h; subst h; exact s3 _ (by simp)
    | i + 4 => simp at h
end
end Go.Am
