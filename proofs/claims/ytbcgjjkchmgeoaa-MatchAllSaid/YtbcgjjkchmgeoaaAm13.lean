/- The abstract machine, part 13: a region that draws its order comes to what the text's order comes to. -/
import Derived.Test.YtbcgjjkchmgeoaaAm12
namespace Go.Am
open Go

section
variable {P : Program} {w0 : World} {nt : Nat}

def gOK (g : Option (Option Tmp × Bool)) (env : Env) : Bool :=
  match g with
  | none => true
  | some (none, _) => false
  | some (some d, want) => match env d with
    | .sc (.bool b) => b == want
    | _ => false

theorem wantA_if (g : Option (Option Tmp × Bool)) (env : Env) (yes no : Env → Prop) : wantA g env yes no ↔ (if gOK g env then yes env else no env) := by
  unfold wantA gOK
  cases g with
  | none => simp
  | some p =>
    obtain ⟨d, want⟩ := p
    cases d with
    | none => simp
    | some d =>
      simp only
      split
      · rename_i b eb
        have key : ∀ c, b = c → upd env d (B c) = env := by
          intro c e; subst e; rw [show B b = env d from eb.symm, upd_self]
        simp only [eb]
        by_cases e : b = want
        · have hb : (b == want) = true := by simp [e]
          rw [hb]; simp only [if_true]
          constructor
          · intro h; rw [← key want e]; exact h.1 e
          · intro h; refine ⟨fun _ => by rw [key want e]; exact h, fun e' => ?_⟩
            subst e; cases b <;> simp at e'
        · have hb : (b == want) = false := by simp [e]
          have e' : b = !want := by cases b <;> cases want <;> simp_all
          rw [hb]; simp only [Bool.false_eq_true, if_false]
          constructor
          · intro h; rw [← key (!want) e']; exact h.2 e'
          · intro h; exact ⟨fun e2 => absurd e2 e, fun _ => by rw [key (!want) e']; exact h⟩
      · simp

def inSt (st : List Nat) (o : Oper) : Bool :=
  match o.dst with
  | some d => st.contains d
  | none => false

/-- As evalOp; what is in st looks at variables alone, and then calls keep the variables. -/
def evalOpD (P : Program) (w0 : World) (nt : Nat) (own st : List Nat) (o : Oper) (env : Env) (H : Heap) (K : Env → Heap → Prop) : Prop :=
  if pureB own o then opC P (if inSt st o then boxes H else H) (evO env) o.op (fun v => putK nt o.dst v env (fun env' => K env' H))
  else opX P w0 H (evO env) o (fun v H' => (isCall o.op = true → st ≠ [] → KeepsBox H H') ∧ putK nt o.dst v env (fun env' => K env' H'))

def stepD (P : Program) (w0 : World) (nt : Nat) (own st : List Nat) (ops : Array Oper) (o : Oper) (env : Env) (H : Heap) (K : Env → Heap → Prop) : Prop :=
  wantA (guardO ops o) env (fun env => evalOpD P w0 nt own st o env H K) (fun env => putK nt o.dst (.sc undef) env (fun env => K env H))

def evalD (P : Program) (w0 : World) (nt : Nat) (own st : List Nat) (ops : Array Oper) : List Oper → Env → Heap → (Env → Heap → Prop) → Prop
  | [], env, H, K => K env H
  | o :: rest, env, H, K => stepD P w0 nt own st ops o env H (fun env H => evalD P w0 nt own st ops rest env H K)

theorem evalOpD_op {own st : List Nat} {o : Oper} {env : Env} {H : Heap} {K : Env → Heap → Prop} (h : evalOpD P w0 nt own st o env H K) : evalOp P w0 nt own o env H K := by
  unfold evalOpD at h
  unfold evalOp
  split at h
  · rename_i hp
    rw [if_pos hp]
    split at h
    · exact opC_sub (boxes_sub H) _ _ _ h
    · exact h
  · rename_i hp
    rw [if_neg hp]
    exact opX_mono h fun v H' k => k.2

theorem stepD_step {own st : List Nat} {ops : Array Oper} {o : Oper} {env : Env} {H : Heap} {K : Env → Heap → Prop} (h : stepD P w0 nt own st ops o env H K) : stepA P w0 nt own ops o env H K := by
  unfold stepD at h; unfold stepA
  rw [wantA_if] at h ⊢
  split at h
  · rename_i e; rw [if_pos e]; exact evalOpD_op h
  · rename_i e; rw [if_neg e]; exact h

theorem putK_mono {dst : Option Tmp} {v : AV} {env : Env} {K K' : Env → Prop} (h : putK nt dst v env K) (hk : ∀ e, K e → K' e) : putK nt dst v env K' := by
  cases dst with
  | none => exact hk _ h
  | some d => exact ⟨h.1, hk _ h.2⟩

theorem evalOpD_mono {own st : List Nat} {o : Oper} {env : Env} {H : Heap} {K K' : Env → Heap → Prop} (h : evalOpD P w0 nt own st o env H K) (hk : ∀ e H', K e H' → K' e H') : evalOpD P w0 nt own st o env H K' := by
  unfold evalOpD at h ⊢
  split at h
  · rename_i hp; rw [if_pos hp]
    exact (det_opC _ _ _).mono h fun v k => putK_mono k fun e => hk e H
  · rename_i hp; rw [if_neg hp]
    exact opX_mono h fun v H' k => ⟨k.1, putK_mono k.2 fun e => hk e H'⟩

theorem stepD_mono {own st : List Nat} {ops : Array Oper} {o : Oper} {env : Env} {H : Heap} {K K' : Env → Heap → Prop} (h : stepD P w0 nt own st ops o env H K) (hk : ∀ e H', K e H' → K' e H') : stepD P w0 nt own st ops o env H K' := by
  unfold stepD at h ⊢
  rw [wantA_if] at h ⊢
  split at h
  · rename_i e; rw [if_pos e]; exact evalOpD_mono h hk
  · rename_i e; rw [if_neg e]; exact putK_mono h fun e => hk e H

/-- What a step leaves: other slots as they were. -/
structure Left (own st : List Nat) (y : Oper) (env : Env) (H : Heap) (e : Env) (h : Heap) : Prop where
  slot : ∀ i, y.dst ≠ some i → e i = env i
  heap : pureB own y = true → h = H
  box : st ≠ [] → isStore y.op = false → KeepsBox H h

theorem putK_left {dst : Option Tmp} {v : AV} {env : Env} {K : Env → Prop} (h : putK nt dst v env K) : putK nt dst v env (fun e => (∀ i, dst ≠ some i → e i = env i) ∧ K e) := by
  cases dst with
  | none => exact ⟨fun _ _ => rfl, h⟩
  | some d => exact ⟨h.1, fun i hi => upd_ne _ _ _ (fun e => hi (by rw [e])), h.2⟩

theorem stepD_left {own st : List Nat} {ops : Array Oper} {y : Oper} {env : Env} {H : Heap} {K : Env → Heap → Prop} (h : stepD P w0 nt own st ops y env H K) :
    stepD P w0 nt own st ops y env H (fun e h => Left own st y env H e h ∧ K e h) := by
  unfold stepD at h ⊢
  rw [wantA_if] at h ⊢
  split at h
  · rename_i eg; rw [if_pos eg]
    unfold evalOpD at h ⊢
    split at h
    · rename_i hp; rw [if_pos hp]
      exact (det_opC _ _ _).mono h fun v k => putK_mono (putK_left k) fun e ⟨a, b⟩ => ⟨⟨a, fun _ => rfl, fun _ _ => .refl _⟩, b⟩
    · rename_i hp; rw [if_neg hp]
      by_cases hc : isCall y.op = true
      · exact opX_mono h fun v H' k => ⟨k.1, putK_mono (putK_left k.2) fun e ⟨a, b⟩ => ⟨⟨a, fun h0 => absurd h0 hp, fun h1 _ => k.1 hc h1⟩, b⟩⟩
      · by_cases hs : isStore y.op = true
        · exact opX_mono h fun v H' k => ⟨k.1, putK_mono (putK_left k.2) fun e ⟨a, b⟩ => ⟨⟨a, fun h0 => absurd h0 hp, fun _ h1 => by rw [hs] at h1; cases h1⟩, b⟩⟩
        · exact opX_mono (opX_keeps (by simpa using hc) (by simpa using hs) h) fun v H' k => ⟨k.2.1, putK_mono (putK_left k.2.2) fun e ⟨a, b⟩ => ⟨⟨a, fun h0 => absurd h0 hp, fun _ _ => k.1⟩, b⟩⟩
  · rename_i eg; rw [if_neg eg]
    exact putK_mono (putK_left h) fun e ⟨a, b⟩ => ⟨⟨a, fun _ => rfl, fun _ _ => .refl _⟩, b⟩

theorem evO_upd {env env' : Env} {ops : Array Oper} {y : Oper} (h : ∀ i, i ∈ y.looksAt ops → env' i = env i) : ∀ x ∈ y.op.operands, evO env' x = evO env x := by
  intro x hx
  cases x with
  | tmp t =>
    refine h t ?_
    unfold Oper.looksAt
    rw [List.mem_append]
    left
    rw [List.mem_filterMap]
    exact ⟨.tmp t, by simpa using hx, rfl⟩
  | _ => rfl

theorem gOK_upd {env env' : Env} {ops : Array Oper} {y : Oper} (h : ∀ i, i ∈ y.looksAt ops → env' i = env i) : gOK (guardO ops y) env' = gOK (guardO ops y) env := by
  unfold guardO gOK
  cases hg : y.guard with
  | none => rfl
  | some p =>
    obtain ⟨j, want⟩ := p
    simp only
    cases hd : (ops[j]?).bind (·.dst) with
    | none => rfl
    | some d =>
      have : env' d = env d := h d (by unfold Oper.looksAt; simp [hg, hd])
      simp only [this]

/-- A slot that a step neither reads nor writes may be set before or behind it. -/
theorem stepD_frame {own st : List Nat} {ops : Array Oper} {y : Oper} {env : Env} {H : Heap} {K : Env → Heap → Prop} {d : Nat} {v : AV} (h1 : d ∉ y.looksAt ops) (h2 : y.dst ≠ some d) :
    stepD P w0 nt own st ops y (upd env d v) H K ↔ stepD P w0 nt own st ops y env H (fun e h => K (upd e d v) h) := by
  have hl : ∀ i, i ∈ y.looksAt ops → (upd env d v) i = env i := fun i hi => upd_ne _ _ _ (fun e => h1 (e ▸ hi))
  have hop := evO_upd hl
  have hput : ∀ (u : AV) (L : Env → Prop), putK nt y.dst u (upd env d v) L ↔ putK nt y.dst u env (fun e => L (upd e d v)) := by
    intro u L
    cases hd : y.dst with
    | none => exact Iff.rfl
    | some d' =>
      have hne : d ≠ d' := fun e => h2 (by rw [hd, e])
      simp only [putK]
      rw [upd_comm env v u hne]
  unfold stepD
  rw [wantA_if, wantA_if, gOK_upd hl]
  split
  · unfold evalOpD
    split
    · rw [opC_congr _ _ hop]
      simp only [hput]
    · simp only [hput]
      exact ⟨opX_congr hop, opX_congr (fun x hx => (hop x hx).symm)⟩
  · exact hput _ _

/-- A step on slots: its value. -/
theorem stepD_det {own st : List Nat} {ops : Array Oper} {x : Oper} (hp : pureB own x = true) {env : Env} {H : Heap} {K : Env → Heap → Prop} (h : stepD P w0 nt own st ops x env H K) :
    ∃ v, putK nt x.dst v env (fun e => K e H) ∧ ∀ (e : Env) (H' : Heap) (K' : Env → Heap → Prop), (∀ i, i ∈ x.looksAt ops → e i = env i) → (H' = H ∨ heapy x.op = false ∨ (inSt st x = true ∧ KeepsBox H H')) →
      putK nt x.dst v e (fun e => K' e H') → stepD P w0 nt own st ops x e H' K' := by
  unfold stepD at h
  rw [wantA_if] at h
  split at h
  · rename_i eg
    unfold evalOpD at h
    rw [if_pos hp] at h
    obtain ⟨v, hv⟩ := det_opC (P := P) _ _ _ _ h
    refine ⟨v, (hv _).1 h, fun e H' K' he hH hput => ?_⟩
    unfold stepD
    rw [wantA_if, gOK_upd he, if_pos eg]
    unfold evalOpD
    rw [if_pos hp, opC_congr _ _ (evO_upd he)]
    have h0 := (hv (fun v => putK nt x.dst v e (fun e => K' e H'))).2 hput
    rcases hH with rfl | hf | ⟨hs, hk⟩
    · exact h0
    · exact opC_free _ _ hf _ h0
    · rw [if_pos hs] at h0 ⊢
      exact opC_sub hk.boxes _ _ _ h0
  · rename_i eg
    refine ⟨.sc undef, h, fun e H' K' he hH hput => ?_⟩
    unfold stepD
    rw [wantA_if, gOK_upd he, if_neg eg]
    exact hput

/-- y, that stands behind x, may come first. -/
def okPair (own st : List Nat) (nt : Nat) (ops : Array Oper) (x y : Oper) : Bool :=
  x.apart ops y && ((pureB own x && (pureB own y || !heapy x.op || (inSt st x && !isStore y.op && st != []))) ||
    (match y.op with
     | .move _ | .assign _ => pureB own y && (match y.dst with | some d => decide (d < nt) | none => true)
     | _ => false))

theorem apart_symm {x y : Oper} {ops : Array Oper} (h : x.apart ops y = true) :
    (∀ d, x.dst = some d → d ∉ y.looksAt ops) ∧ (∀ d, x.dst = some d → y.dst ≠ some d) ∧ (∀ d, y.dst = some d → d ∉ x.looksAt ops) := Oper.apart_spec h

theorem swap_ok {own st : List Nat} {ops : Array Oper} {x y : Oper} (h : okPair own st nt ops x y = true) {env : Env} {H : Heap} {K : Env → Heap → Prop}
    (hs : stepD P w0 nt own st ops x env H (fun e h => stepD P w0 nt own st ops y e h K)) : stepD P w0 nt own st ops y env H (fun e h => stepD P w0 nt own st ops x e h K) := by
  unfold okPair at h
  rw [Bool.and_eq_true, Bool.or_eq_true] at h
  obtain ⟨hap, hor⟩ := h
  obtain ⟨a1, a2, a3⟩ := apart_symm hap
  rcases hor with hor | hor
  · -- x reckons on slots
    rw [Bool.and_eq_true] at hor
    obtain ⟨hp, hor⟩ := hor
    obtain ⟨v, hput, hdet⟩ := stepD_det hp hs
    have fin : ∀ e h, Left own st y env H e h → putK nt x.dst v e (fun e => K e h) → stepD P w0 nt own st ops x e h K := by
      intro e h hl hpk
      refine hdet e h K (fun i hi => hl.slot i (fun e0 => a3 i e0 hi)) ?_ hpk
      simp only [Bool.or_eq_true, Bool.not_eq_true', Bool.and_eq_true, bne_iff_ne, ne_eq] at hor
      rcases hor with (hy | hf) | ⟨⟨h1, h2⟩, h3⟩
      · exact .inl (hl.heap hy)
      · exact .inr (.inl hf)
      · exact .inr (.inr ⟨h1, hl.box h3 h2⟩)
    cases hd : x.dst with
    | none =>
      rw [hd] at hput
      simp only [putK] at hput
      refine stepD_mono (stepD_left hput) fun e h ⟨hl, k⟩ => fin e h hl ?_
      rw [hd]; exact k
    | some d =>
      rw [hd] at hput
      obtain ⟨hlt, hput⟩ := hput
      rw [stepD_frame (a1 d hd) (a2 d hd)] at hput
      refine stepD_mono (stepD_left hput) fun e h ⟨hl, k⟩ => fin e h hl ?_
      rw [hd]; exact ⟨hlt, k⟩
  · -- y is a move
    have hmv : ∃ z, (y.op = .move z ∨ y.op = .assign z) ∧ pureB own y = true ∧ ∀ d, y.dst = some d → d < nt := by
      split at hor
      · rename_i z e
        rw [Bool.and_eq_true] at hor
        exact ⟨z, .inl e, hor.1, fun d hd => by have := hor.2; rw [hd] at this; simpa using this⟩
      · rename_i z e
        rw [Bool.and_eq_true] at hor
        exact ⟨z, .inr e, hor.1, fun d hd => by have := hor.2; rw [hd] at this; simpa using this⟩
      · cases hor
    obtain ⟨z, hyop, hyp, hlt⟩ := hmv
    -- its value
    obtain ⟨v, hv⟩ : ∃ v, ∀ (e : Env) (H' : Heap) (K' : Env → Heap → Prop), (∀ i, i ∈ y.looksAt ops → e i = env i) → (stepD P w0 nt own st ops y e H' K' ↔ putK nt y.dst v e (fun e => K' e H')) := by
      refine ⟨if gOK (guardO ops y) env then evO env z else .sc undef, fun e H' K' he => ?_⟩
      unfold stepD
      rw [wantA_if, gOK_upd he]
      split
      · unfold evalOpD
        rw [if_pos hyp]
        have hop : z ∈ y.op.operands := by rcases hyop with e0 | e0 <;> simp [e0, Op.operands]
        have hz := evO_upd he z hop
        rcases hyop with e0 | e0 <;> simp only [e0, opC, hz]
      · exact Iff.rfl
    have h1 : stepD P w0 nt own st ops x env H (fun e h => putK nt y.dst v e (fun e => K e h)) := by
      refine stepD_mono (stepD_left hs) fun e h ⟨hl, k⟩ => ?_
      exact (hv e h K (fun i hi => hl.slot i (fun e0 => a1 i e0 hi))).1 k
    rw [hv env H _ (fun _ _ => rfl)]
    cases hd : y.dst with
    | none => rw [hd] at h1; exact h1
    | some d =>
      rw [hd] at h1
      have h2 : d ∉ x.looksAt ops := a3 d hd
      have h3 : x.dst ≠ some d := fun e0 => a2 d e0 hd
      exact ⟨hlt d hd, (stepD_frame h2 h3).2 (stepD_mono h1 fun e h k => k.2)⟩
end
end Go.Am
