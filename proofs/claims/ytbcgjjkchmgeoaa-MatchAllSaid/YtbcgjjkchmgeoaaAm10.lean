/- The abstract machine, part 10: all operations; regions in their order. -/
import Derived.Test.YtbcgjjkchmgeoaaAm9m
import Derived.Orders
namespace Go.Am
open Go

section
variable (P : Program) (w0 : World) (nt : Nat)

def ownD (own : List Nat) (dst : Option Tmp) : Bool :=
  match dst with
  | some d => own.contains d
  | none => false

def isNilO : Operand → Bool
  | .const (.slice none 0 0) => true
  | _ => false

/-- Operations on slots that leave the heap alone. -/
def pureB (own : List Nat) (o : Oper) : Bool :=
  match o.op with
  | .move _ | .assign _ | .buildSlice .. => !ownD own o.dst
  | .pick .. | .build .. | .load .. | .nilCheck _ | .unOp .. | .convert .. | .makeInterface .. | .makeFunc .. | .slice .. | .fieldAddr .. | .field .. | .indexAddr .. | .index .. | .extract .. | .lookup .. => true
  | .binOp _ _ _ y _ => !isNilO y
  | .call c => match c.callee with
    | .builtin .len | .builtin .min | .builtin .max => true
    | _ => false
  | _ => false

def nilCheckK (x : AV) (K : AV → Prop) : Prop :=
  match x with
  | .ptr .. => K x
  | .eptr .. => K x
  | .clo .. => K x
  | _ => False

def pickK (c x y : AV) (K : AV → Prop) : Prop :=
  match c with
  | .sc (.bool t) => K (if t then x else y)
  | _ => False

/-- What such an operation asks, and its value. -/
def opC (H : Heap) (ρ : Operand → AV) (op : Op) (K : AV → Prop) : Prop :=
  match op with
  | .move x | .assign x => K (ρ x)
  | .pick c x y => pickK (ρ c) (ρ x) (ρ y) K
  | .build t parts => buildK P t (parts.toList.map fun p => (p.1, ρ p.2)) K
  | .buildSlice t len parts => buildSliceK P H false t len (parts.toList.map fun p => (p.1, ρ p.2)) (fun v _ => K v)
  | .load t x => loadK P H t (ρ x) K
  | .nilCheck x => nilCheckK (ρ x) K
  | .binOp op t x y _ => binK P op t (ρ x) (ρ y) (notNilI y (ρ y)) K
  | .unOp op _ x => unK op (ρ x) K
  | .convert s d x => convK P s d (ρ x) K
  | .makeInterface t x => ifaceK P t (ρ x) K
  | .makeFunc fn a b => funcK fn (a.toList.map ρ) (b.toList.map ρ) K
  | .slice t x lo hi mx => sliceOpK P H t (ρ x) (lo.map ρ) (hi.map ρ) (mx.map ρ) K
  | .fieldAddr t x f => fieldAddrK P t (ρ x) f K
  | .field t x f => fieldK P t (ρ x) f K
  | .indexAddr t x i => indexAddrK P H t (ρ x) (ρ i) K
  | .index t x i => indexK P t (ρ x) (ρ i) K
  | .extract x i => extractK (ρ x) i K
  | .lookup t x i ok => lookupK P H t (ρ x) (ρ i) ok K
  | .call c => match c.callee, c.args.toList, c.argTypes.toList with
    | .builtin .len, [x], [t] => lenK P t (ρ x) K
    | .builtin .min, [x, y], _ => minmaxK false (ρ x) (ρ y) K
    | .builtin .max, [x, y], _ => minmaxK true (ρ x) (ρ y) K
    | _, _, _ => False
  | _ => False

/-- The others: they make memory, write it, or call. -/
def opX (H : Heap) (ρ : Operand → AV) (o : Oper) (K : AV → Heap → Prop) : Prop :=
  match o.op with
  | .move x | .assign x => isNilS (ρ x) = true ∧ nilOwnK P H o.type K
  | .buildSlice t len parts => buildSliceK P H true t len (parts.toList.map fun p => (p.1, ρ p.2)) K
  | .alloc t => allocK P H t K
  | .box _ x => boxK H (ρ x) K
  | .store t x y => storeK P H t (ρ x) (ρ y) (fun H' => K (.sc undef) H')
  | .makeSlice t l c => makeSliceK P H t (ρ l) (ρ c) K
  | .makeMap _ c => makeMapK H c K
  | .mapUpdate t m k v => mapUpdateK P H t (ρ m) (ρ k) (ρ v) (fun H' => K (.sc undef) H')
  | .binOp .eql t x _ _ => eqS P t false (ρ x) (fun v => K v H)
  | .binOp .neq t x _ _ => eqS P t true (ρ x) (fun v => K v H)
  | .call c => match c.callee, c.args.toList, c.argTypes.toList with
    | .builtin .append, [s, x], [t1, t2] => appendK P H t1 t2 (ρ s) (ρ x) K
    | .builtin .copy, [s, x], [t1, t2] => copyK P H t1 t2 (ρ s) (ρ x) K
    | .builtin .clear, [s], [t] => clearK P H t (ρ s) K
    | .value f, args, _ => callK P w0 H (ρ f) (args.map fun x => wk (ρ x)) K
    | _, _, _ => False
  | _ => False

def evalOp (own : List Nat) (o : Oper) (env : Env) (H : Heap) (K : Env → Heap → Prop) : Prop :=
  if pureB own o then opC P H (evO env) o.op (fun v => putK nt o.dst v env (fun env' => K env' H))
  else opX P w0 H (evO env) o (fun v H' => putK nt o.dst v env (fun env' => K env' H'))
end

section
variable {P : Program} {w0 : World} {nt : Nat}

theorem bndA_eq (env : Env) (o : Option Operand) : bndA env o = o.map (evO env) := by cases o <;> rfl

theorem Arr1 {α : Type} {a : Array α} {x : α} (h : a.toList = [x]) : a = #[x] := Array.ext' h
theorem Arr2 {α : Type} {a : Array α} {x y : α} (h : a.toList = [x, y]) : a = #[x, y] := Array.ext' h

theorem evalOp_ok {own : List Nat} {o : Oper} {env : Env} {H : Heap} {K : Env → Heap → Prop} (h : evalOp P w0 nt own o env H K) : OpOK P w0 nt o env H K := by
  unfold evalOp at h
  split at h
  · rename_i hp
    generalize ho : o.op = op at h
    cases op with
    | move x => exact ok_move (.inl ho) h
    | assign x => exact ok_move (.inr ho) h
    | pick c x y =>
      simp only [opC, pickK] at h
      split at h
      · rename_i t e; exact ok_pick ho e h
      · exact h.elim
    | build t parts => exact ok_build ho h
    | buildSlice t len parts =>
      refine ok_buildSlice false ho ?_
      simp only [opC] at h
      unfold buildSliceK at h ⊢
      exact h
    | load t x => exact ok_load ho h
    | nilCheck x =>
      simp only [opC, nilCheckK] at h
      split at h
      · rename_i r t f e; exact ok_nilCheck ho (.inl ⟨r, t, f, e⟩) h
      · rename_i c f e; exact ok_nilCheck ho (.inr (.inl ⟨c, f, e⟩)) h
      · rename_i f c d e; exact ok_nilCheck ho (.inr (.inr ⟨f, c, d, e⟩)) h
      · exact h.elim
    | binOp op t x y t' => exact ok_bin ho h
    | unOp op t x => exact ok_un ho h
    | convert s d x => exact ok_conv ho h
    | makeInterface t x => exact ok_iface ho h
    | makeFunc fn a b => exact ok_makeFunc ho h
    | slice t x lo hi mx => exact ok_slice ho (by rw [bndA_eq, bndA_eq, bndA_eq]; exact h)
    | fieldAddr t x f => exact ok_fieldAddr ho h
    | field t x f => exact ok_field ho h
    | indexAddr t x i => exact ok_indexAddr ho h
    | index t x i => exact ok_index ho h
    | extract x i => exact ok_extract ho h
    | lookup t x i c => exact ok_lookup ho h
    | call c =>
      obtain ⟨callee, args, ats⟩ := c
      simp only [opC] at h
      split at h
      · rename_i x t e2 e3
        have := Arr1 e2; have := Arr1 e3; subst_vars
        exact ok_len ho h
      · rename_i x y e2
        have := Arr2 e2; subst_vars
        exact ok_min ho h
      · rename_i x y e2
        have := Arr2 e2; subst_vars
        exact ok_max ho h
      · exact h.elim
    | _ => exact h.elim
  · rename_i hp
    unfold opX at h
    generalize ho : o.op = op at h
    cases op with
    | move x => exact ok_nilOwn (.inl ho) h.1 h.2
    | assign x => exact ok_nilOwn (.inr ho) h.1 h.2
    | buildSlice t len parts => exact ok_buildSlice true ho h
    | alloc t => exact ok_alloc ho h
    | box t x => exact ok_box ho h
    | store t x y => exact ok_store ho h
    | makeSlice t l c => exact ok_makeSlice ho h
    | makeMap t c => exact ok_makeMap ho h
    | mapUpdate t x i y => exact ok_mapUpdate ho h
    | binOp op t x y t' =>
      have hy : isNilO y = true := by
        simp only [pureB, ho, Bool.not_eq_true', Bool.not_eq_false] at hp
        simpa using hp
      have hy' : y = .const (.slice none 0 0) := by
        unfold isNilO at hy
        split at hy
        · rfl
        · cases hy
      subst hy'
      cases op with
      | eql => exact ok_binS false ho h
      | neq => exact ok_binS true ho h
      | _ => exact h.elim
    | call c =>
      obtain ⟨callee, args, ats⟩ := c
      simp only at h
      split at h
      · rename_i s x t1 t2 e2 e3
        have := Arr2 e2; have := Arr2 e3; subst_vars
        exact ok_append ho h
      · rename_i s x t1 t2 e2 e3
        have := Arr2 e2; have := Arr2 e3; subst_vars
        exact ok_copy ho h
      · rename_i s t e2 e3
        have := Arr1 e2; have := Arr1 e3; subst_vars
        exact ok_clear ho h
      · rename_i f
        exact ok_call ho h
      · exact h.elim
    | _ => exact h.elim

/-- Whether an operation's guard is met. -/
def guardO (ops : Array Oper) (o : Oper) : Option (Option Tmp × Bool) :=
  match o.guard with
  | none => none
  | some (j, want) => some ((ops[j]?).bind (·.dst), want)

def wantA (g : Option (Option Tmp × Bool)) (env : Env) (yes no : Env → Prop) : Prop :=
  match g with
  | none => yes env
  | some (none, _) => no env
  | some (some d, want) => match env d with
    | .sc (.bool b) => (b = want → yes (upd env d (B want))) ∧ (b = !want → no (upd env d (B (!want))))
    | _ => no env

def stepA (P : Program) (w0 : World) (nt : Nat) (own : List Nat) (ops : Array Oper) (o : Oper) (env : Env) (H : Heap) (K : Env → Heap → Prop) : Prop :=
  wantA (guardO ops o) env (fun env => evalOp P w0 nt own o env H K) (fun env => putK nt o.dst (.sc undef) env (fun env => K env H))

def evalOps (P : Program) (w0 : World) (nt : Nat) (own : List Nat) (ops : Array Oper) : List Oper → Env → Heap → (Env → Heap → Prop) → Prop
  | [], env, H, K => K env H
  | o :: rest, env, H, K => stepA P w0 nt own ops o env H (fun env H => evalOps P w0 nt own ops rest env H K)

theorem wantA_iff {ops : Array Oper} {o : Oper} {env : Env} {F : Ft} {M : Mt} {a : Act} (er : EnvR F M nt env a) {yes no : Env → Prop} (h : wantA (guardO ops o) env yes no) :
    (Region.wanted o (yielded ops a.tmps) = true ∧ yes env) ∨ (Region.wanted o (yielded ops a.tmps) = false ∧ no env) := by
  unfold wantA guardO at h
  unfold Region.wanted
  cases hg : o.guard with
  | none => rw [hg] at h; exact .inl ⟨rfl, h⟩
  | some p =>
    obtain ⟨j, want⟩ := p
    rw [hg] at h
    simp only at h ⊢
    unfold yielded
    cases hd : (ops[j]?).bind (·.dst) with
    | none => rw [hd] at h; exact .inr ⟨rfl, h⟩
    | some d =>
      rw [hd] at h
      simp only [Option.bind_some] at h ⊢
      have hs := er.slot d
      have hget : a.tmps.getD d undef = (a.tmps[d]?).getD undef := by simp [Array.getD_eq_getD_getElem?]
      rw [hget] at hs
      split at h
      · rename_i b eb
        rw [eb] at hs
        have hv := hs.sc_inv
        have hb : a.tmps[d]? = some (.bool b) := by
          cases ht : a.tmps[d]? with
          | none => rw [ht] at hv; cases hv
          | some v => rw [ht] at hv; simp at hv; rw [hv]
        rw [hb]
        simp only
        have key : ∀ c, b = c → upd env d (B c) = env := by
          intro c e; subst e; rw [show B b = env d from eb.symm, upd_self]
        by_cases e : b = want
        · left
          refine ⟨by simp [e], ?_⟩
          rw [← key want e]; exact h.1 e
        · right
          have e' : b = !want := by cases b <;> cases want <;> simp_all
          refine ⟨by simp [e], ?_⟩
          rw [← key (!want) e']; exact h.2 e'
      · rename_i hn
        right
        refine ⟨?_, h⟩
        cases ht : a.tmps[d]? with
        | none => rfl
        | some v =>
          rw [ht] at hs
          simp only [Option.getD_some] at hs
          cases v with
          | bool b =>
            exfalso
            generalize hz : env d = z at hs hn
            cases hs
            exact hn b rfl
          | _ => rfl

/-- One operation of a region. -/
theorem stepA_ok {own : List Nat} {ops : Array Oper} {o : Oper} {env : Env} {H : Heap} {K : Env → Heap → Prop} (h : stepA P w0 nt own ops o env H K)
    {w : World} {F : Ft} {M : Mt} {a : Act} (r : Rel w0 w F M H) (er : EnvR F M nt env a) {next : Act → World → Prop} {Q : Exit → Act → World → Prop}
    (hn : ∀ env' H' F' M' a' w', Ext F F' M M' → Rel w0 w' F' M' H' → EnvR F' M' nt env' a' → K env' H' → next a' w') :
    if Region.wanted o (yielded ops a.tmps) then o.wp P a w next Q else next (a.put o.dst undef) w := by
  rcases wantA_iff er h with ⟨hw, hy⟩ | ⟨hw, hno⟩
  · rw [if_pos hw]
    exact evalOp_ok hy w F M a r er next Q hn
  · rw [if_neg (by rw [hw]; simp)]
    obtain ⟨env', er', k⟩ := put_ok er (.sc undef) hno
    exact hn env' H F M _ w (Ext.refl _ _) r er' k

theorem evalOps_ok {own : List Nat} {ops : Array Oper} : ∀ (l : List Oper) (env : Env) (H : Heap) (K : Env → Heap → Prop), evalOps P w0 nt own ops l env H K →
    ∀ w F M a, Rel w0 w F M H → EnvR F M nt env a → ∀ Q : Exit → Act → World → Prop,
      (∀ env' H' F' M' a' w', Ext F F' M M' → Rel w0 w' F' M' H' → EnvR F' M' nt env' a' → K env' H' → Q .normal a' w') → wpList P ops Q l a w := by
  intro l
  induction l with
  | nil => intro env H K h w F M a r er Q hn; exact hn env H F M a w (Ext.refl _ _) r er h
  | cons o rest ih =>
    intro env H K h w F M a r er Q hn
    have st := stepA_ok (Q := Q) (next := wpList P ops Q rest) h r er (fun env' H' F' M' a' w' x r' er' k =>
      ih env' H' K k w' F' M' a' r' er' Q (fun env'' H'' F'' M'' a'' w'' x' r'' er'' k' => hn env'' H'' F'' M'' a'' w'' (x.trans x') r'' er'' k'))
    unfold wpList
    split
    · rename_i hw; rw [if_pos hw] at st; exact .inl st
    · rename_i hw; rw [if_neg hw] at st; exact st

theorem awp_region (own : List Nat) {id : Nat} {ops : Array Oper} {Q : Exit → Env → Heap → Prop} {env : Env} {H : Heap}
    (h : evalOps P w0 nt own ops ops.toList env H (Q .normal)) : AWP P w0 nt (.region id ops false) Q env H := by
  intro w F M a r er
  refine wp_region_list (evalOps_ok _ _ _ _ h w F M a r er _ ?_)
  intro env' H' F' M' a' w' x r' er' k
  exact ⟨env', H', F', M', x, r', er', k⟩
end
end Go.Am
