/- The abstract machine, part 6: numbers, tests, aggregates that are built, function values. -/
import Derived.Test.YtbcgjjkchmgeoaaAm5
namespace Go.Am
open Go

section
variable {P : Program} {w0 : World} {nt : Nat}

theorem wrap_id {n : Int} (h : i64ok n) : IntKind.i64.wrap n = n := by
  unfold i64ok at h
  rw [IntKind.wrap_i64]
  omega

theorem arith_ok {k : IntKind} {n : Int} {K : AV → Prop} (h : arith k n K) : K (.sc (.int k (k.wrap n))) := by
  unfold arith at h
  split at h
  · rename_i e; subst e; rw [wrap_id h.1]; exact h.2
  · exact h

def isNilS : AV → Bool
  | .sc (.slice none 0 0) => true
  | _ => false

/-- '==' (neg: '!=') where one side is nil, and on truth values and texts. -/
def eqA (P : Program) (t : TypeId) (neg : Bool) (x y : AV) (K : AV → Prop) : Prop :=
  match x, y with
  | .sc (.bool a), .sc (.bool b) => P.underlying t = some .bool ∧ K (B (neg != (a == b)))
  | .sc (.string a), .sc (.string b) => K (B (neg != (a.toList == b.toList)))
  | .ptr .., .sc (.pointer none) => (∃ e, P.underlying t = some (.pointer e)) ∧ K (B (neg != false))
  | .sc (.pointer none), .sc (.pointer none) => (∃ e, P.underlying t = some (.pointer e)) ∧ K (B (neg != true))
  | .sc .nilIface, .sc .nilIface => (∃ e, P.underlying t = some (.interface e)) ∧ K (B (neg != true))
  | .ifc _ _, .sc .nilIface => (∃ e, P.underlying t = some (.interface e)) ∧ K (B (neg != false))
  | _, _ => False

/-- '== nil' of a slice. -/
def eqS (P : Program) (t : TypeId) (neg : Bool) (x : AV) (K : AV → Prop) : Prop :=
  (slE P t).isSome = true ∧
    match slLen x with
    | some 0 => (isNilS x = false → K (B (neg != false))) ∧ K (B (neg != true))
    | some (_ + 1) => K (B (neg != false))
    | none => False

theorem equal_eq (t : TypeId) (x y : Value) : Op.equal t x y = Op.equalIn (9999 + 1) t x y := rfl
theorem equalIn_bool (d : Nat) {t : TypeId} (hu : P.underlying t = some .bool) (a b : Bool) (w : World) : (Op.equalIn (d + 1) t (.bool a) (.bool b)).run P w = .ok (a == b) w := by
  simp [Op.equalIn, run_underlying hu]
theorem equalIn_ptr (d : Nat) {t e : TypeId} (hu : P.underlying t = some (.pointer e)) (a : Option Addr) (w : World) : (Op.equalIn (d + 1) t (.pointer a) (.pointer none)).run P w = .ok a.isNone w := by
  cases a <;> simp [Op.equalIn, run_underlying hu]
theorem equalIn_nilIface (d : Nat) {t : TypeId} {e : Array (String × TypeId)} (hu : P.underlying t = some (.interface e)) (w : World) : (Op.equalIn (d + 1) t .nilIface .nilIface).run P w = .ok true w := by
  simp [Op.equalIn, run_underlying hu]
theorem equalIn_iface (d : Nat) {t : TypeId} {e : Array (String × TypeId)} (hu : P.underlying t = some (.interface e)) (tv : TypeId) (v : Value) (w : World) : (Op.equalIn (d + 1) t (.iface tv v) .nilIface).run P w = .ok false w := by
  simp [Op.equalIn, run_underlying hu]
theorem equalIn_slice (d : Nat) {t e : TypeId} (hu : P.underlying t = some (.slice e)) (a : Option Addr) (n c : Nat) (w : World) : (Op.equalIn (d + 1) t (.slice a n c) (.slice none 0 0)).run P w = .ok a.isNone w := by
  cases a <;> simp [Op.equalIn, run_underlying hu]

theorem not_nilS {F : Ft} {M : Mt} {x : AV} {ad : Addr} {n c : Nat} (h : VR F M x (.slice (some ad) n c)) : isNilS x = false := by
  unfold isNilS
  split
  · have := h.sc_inv; cases this
  · rfl
theorem slLen_pos {F : Ft} {M : Mt} {x : AV} {m n c : Nat} (hl : slLen x = some (m + 1)) (h : VR F M x (.slice none n c)) : False := by
  unfold slLen at hl
  split at hl <;> try (cases hl; done)
  · cases hl; obtain ⟨a', c', e1, _, hcase⟩ := h.sl_inv; cases e1; rcases hcase with ⟨_, h0⟩ | ⟨_, _, _, _, _, e2, _⟩ <;> first | omega | cases e2
  · cases hl; obtain ⟨a', e1, hcase⟩ := h.csl_inv; cases e1; rcases hcase with ⟨_, h0⟩ | ⟨_, _, _, _, _, e2, _⟩ <;> first | omega | cases e2
  · cases hl; obtain ⟨_, _, _, _, _, e1, hn', _, _, hcase⟩ := h.ref_inv; cases e1; rcases hcase with h0 | ⟨_, _, _, e2⟩ <;> first | omega | cases e2
  · cases hl; obtain ⟨_, _, _, _, e1, _, _, hcase⟩ := h.cref_inv; cases e1; rcases hcase with h0 | ⟨_, _, _, e2⟩ <;> first | omega | cases e2

theorem eqA_run {w : World} {F : Ft} {M : Mt} {H : Heap} {t : TypeId} {x y : AV} {cx cy : Value} {xo yo : Operand} {K : AV → Prop} (_r : Rel w0 w F M H) (hx : VR F M x cx) (hy : VR F M y cy)
    (hyc : cy = .nilIface → ∃ v, yo = .const v) {neg : Bool} (h : eqA P t neg x y K) :
    ∃ b, (do eqGuard .eql t xo yo cx cy; binOp .eql t cx cy : Sem Value).run P w = .ok (.bool b) w ∧ (do eqGuard .neq t xo yo cx cy; binOp .neq t cx cy : Sem Value).run P w = .ok (.bool (!b)) w ∧ K (B (neg != b)) := by
  unfold eqA at h
  split at h
  · rename_i a b
    have h1 := hx.sc_inv; have h2 := hy.sc_inv; subst h1 h2
    obtain ⟨hu, k⟩ := h
    exact ⟨a == b, by simp [eqGuard, binOp, equal_eq, equalIn_bool _ hu], by simp [eqGuard, binOp, equal_eq, equalIn_bool _ hu], k⟩
  · rename_i a b
    have h1 := hx.sc_inv; have h2 := hy.sc_inv; subst h1 h2
    exact ⟨a.toList == b.toList, by simp [eqGuard, binOp, Op.stringOp], by simp [eqGuard, binOp, Op.stringOp], h⟩
  · obtain ⟨⟨e, hu⟩, k⟩ := h
    obtain ⟨g, o, cap, es, hM, rfl⟩ := hx.ptr_inv
    have h2 := hy.sc_inv; subst h2
    exact ⟨false, by simp [eqGuard, binOp, equal_eq, equalIn_ptr _ hu], by simp [eqGuard, binOp, equal_eq, equalIn_ptr _ hu], k⟩
  · obtain ⟨⟨e, hu⟩, k⟩ := h
    have h1 := hx.sc_inv; have h2 := hy.sc_inv; subst h1 h2
    exact ⟨true, by simp [eqGuard, binOp, equal_eq, equalIn_ptr _ hu], by simp [eqGuard, binOp, equal_eq, equalIn_ptr _ hu], k⟩
  · obtain ⟨⟨e, hu⟩, k⟩ := h
    have h1 := hx.sc_inv; have h2 := hy.sc_inv; subst h1 h2
    obtain ⟨v, rfl⟩ := hyc rfl
    exact ⟨true, by simp [eqGuard, binOp, equal_eq, equalIn_nilIface _ hu], by simp [eqGuard, binOp, equal_eq, equalIn_nilIface _ hu], k⟩
  · obtain ⟨⟨e, hu⟩, k⟩ := h
    have h2 := hy.sc_inv; subst h2
    cases hx with
    | ifc hv => exact ⟨false, by simp [eqGuard, binOp, equal_eq, equalIn_iface _ hu], by simp [eqGuard, binOp, equal_eq, equalIn_iface _ hu], k⟩
  · exact h.elim

theorem eqS_run {w : World} {F : Ft} {M : Mt} {t : TypeId} {x : AV} {cx : Value} {xo yo : Operand} {K : AV → Prop} {neg : Bool} (hx : VR F M x cx) (h : eqS P t neg x K) :
    ∃ b, (do eqGuard .eql t xo yo cx (.slice none 0 0); binOp .eql t cx (.slice none 0 0) : Sem Value).run P w = .ok (.bool b) w ∧ (do eqGuard .neq t xo yo cx (.slice none 0 0); binOp .neq t cx (.slice none 0 0) : Sem Value).run P w = .ok (.bool (!b)) w ∧ K (B (neg != b)) := by
  obtain ⟨hsl, h⟩ := h
  obtain ⟨e, he⟩ := Option.isSome_iff_exists.1 hsl
  have hu := slE_eq he
  have run : ∀ (ad : Option Addr) (n c : Nat), (do eqGuard .eql t xo yo (.slice ad n c) (.slice none 0 0); binOp .eql t (.slice ad n c) (.slice none 0 0) : Sem Value).run P w = .ok (.bool ad.isNone) w ∧
      (do eqGuard .neq t xo yo (.slice ad n c) (.slice none 0 0); binOp .neq t (.slice ad n c) (.slice none 0 0) : Sem Value).run P w = .ok (.bool (!ad.isNone)) w := by
    intro ad n c
    constructor <;> simp [eqGuard, binOp, equal_eq, equalIn_slice _ hu]
  split at h
  · rename_i hl
    obtain ⟨ad, c, rfl, _⟩ := slLen_inv hl hx
    refine ⟨ad.isNone, (run ad 0 c).1, (run ad 0 c).2, ?_⟩
    cases ad with
    | none => exact h.2
    | some ad => exact h.1 (not_nilS hx)
  · rename_i m hl
    obtain ⟨ad, c, rfl, hn⟩ := slLen_inv hl hx
    refine ⟨ad.isNone, (run ad _ c).1, (run ad _ c).2, ?_⟩
    have : ad.isNone = false := by
      cases ad with
      | some _ => rfl
      | none => exact (slLen_pos hl hx).elim
    rw [this]; exact h
  · exact h.elim

def binK (P : Program) (op : BinOp) (t : TypeId) (x y : AV) (yconst : Bool) (K : AV → Prop) : Prop :=
  match x, y with
  | .sc (.int _ _), .sc (.int _ _) => binA op x y K
  | _, _ => yconst = true ∧
    match op with
    | .eql => eqA P t false x y K
    | .neq => eqA P t true x y K
    | _ => False

def isConstO : Operand → Bool
  | .const _ => true
  | _ => false

/-- Not an interface value that may be nil, but for the word nil. -/
def notNilI (y : Operand) (v : AV) : Bool :=
  match v with
  | .sc .nilIface => isConstO y
  | _ => true

theorem ok_binS {o : Oper} {env : Env} {H : Heap} {K : Env → Heap → Prop} {t t' : TypeId} {x : Operand} (neg : Bool) (ho : o.op = .binOp (if neg then .neq else .eql) t x (.const (.slice none 0 0)) t')
    (h : eqS P t neg (evO env x) (fun v => putK nt o.dst v env (fun env' => K env' H))) : OpOK P w0 nt o env H K := by
  refine ok_pureK _ ?_ h
  clear h
  intro w F M a r er K' h
  obtain ⟨b, h1, h2, k⟩ := eqS_run (xo := x) (yo := .const (.slice none 0 0)) (w := w) (er.ev x) h
  refine ⟨_, .bool (neg != b), ?_, .sc _, k⟩
  cases neg
  · simp only [execOp, ho, Sem.run_bind, Act.eval, Bool.false_eq_true, if_false] at h1 ⊢
    rw [h1]; simp
  · simp only [execOp, ho, Sem.run_bind, Act.eval, if_true] at h2 ⊢
    rw [h2]; simp

theorem ok_bin {o : Oper} {env : Env} {H : Heap} {K : Env → Heap → Prop} {op : BinOp} {t t' : TypeId} {x y : Operand} (ho : o.op = .binOp op t x y t')
    (h : binK P op t (evO env x) (evO env y) (notNilI y (evO env y)) (fun v => putK nt o.dst v env (fun env' => K env' H))) : OpOK P w0 nt o env H K := by
  refine ok_pureK _ ?_ h
  clear h
  intro w F M a r er K' h
  have hx := er.ev x
  have hy := er.ev y
  unfold binK at h
  split at h
  · rename_i k n k' m e1 e2
    rw [e1] at hx; rw [e2] at hy
    have c1 := hx.sc_inv
    have c2 := hy.sc_inv
    have hg : (eqGuard op t x y (.int k n) (.int k' m)).run P w = .ok () w := by
      unfold eqGuard
      cases op <;> simp
    rw [e1, e2] at h
    unfold binA at h
    cases op
    all_goals (try simp only at h)
    case shl => 
      obtain ⟨h0, h⟩ := h
      have := arith_ok h
      exact ⟨_, .int k (k.wrap (n * 2 ^ (min m.toNat k.bits))), by simp [execOp, ho, c1, c2, hg, binOp, Op.shift, Int.not_lt.2 h0], .sc _, this⟩
    case shr =>
      obtain ⟨h0, h⟩ := h
      exact ⟨_, .int k (n.fdiv (2 ^ (min m.toNat k.bits))), by simp [execOp, ho, c1, c2, hg, binOp, Op.shift, Int.not_lt.2 h0], .sc _, h⟩
    case add => obtain ⟨rfl, h⟩ := h; have := arith_ok h; exact ⟨_, .int k (k.wrap (n + m)), by simp [execOp, ho, c1, c2, hg, binOp, Op.intArith], .sc _, this⟩
    case sub => obtain ⟨rfl, h⟩ := h; have := arith_ok h; exact ⟨_, .int k (k.wrap (n - m)), by simp [execOp, ho, c1, c2, hg, binOp, Op.intArith], .sc _, this⟩
    case mul => obtain ⟨rfl, h⟩ := h; have := arith_ok h; exact ⟨_, .int k (k.wrap (n * m)), by simp [execOp, ho, c1, c2, hg, binOp, Op.intArith], .sc _, this⟩
    case quo => obtain ⟨rfl, h0, h⟩ := h; have := arith_ok h; exact ⟨_, .int k (k.wrap (n.tdiv m)), by simp [execOp, ho, c1, c2, hg, binOp, Op.intDiv, h0], .sc _, this⟩
    case rem => obtain ⟨rfl, h0, h⟩ := h; exact ⟨_, .int k (n.tmod m), by simp [execOp, ho, c1, c2, hg, binOp, Op.intDiv, h0], .sc _, h⟩
    case eql => obtain ⟨rfl, h⟩ := h; exact ⟨_, .bool (decide (n = m)), by simp [execOp, ho, c1, c2, hg, binOp, Op.intCmp]; rfl, .sc _, h⟩
    case neq => obtain ⟨rfl, h⟩ := h; exact ⟨_, .bool (!decide (n = m)), by simp [execOp, ho, c1, c2, hg, binOp, Op.intCmp]; rfl, .sc _, h⟩
    case lss => obtain ⟨rfl, h⟩ := h; exact ⟨_, .bool (decide (n < m)), by simp [execOp, ho, c1, c2, hg, binOp, Op.intCmp], .sc _, h⟩
    case leq => obtain ⟨rfl, h⟩ := h; exact ⟨_, .bool (decide (n ≤ m)), by simp [execOp, ho, c1, c2, hg, binOp, Op.intCmp], .sc _, h⟩
    case gtr => obtain ⟨rfl, h⟩ := h; exact ⟨_, .bool (decide (m < n)), by simp [execOp, ho, c1, c2, hg, binOp, Op.intCmp], .sc _, h⟩
    case geq => obtain ⟨rfl, h⟩ := h; exact ⟨_, .bool (decide (m ≤ n)), by simp [execOp, ho, c1, c2, hg, binOp, Op.intCmp], .sc _, h⟩
    case and => obtain ⟨rfl, h⟩ := h; exact ⟨_, .int k (k.wrap ((BitVec.ofInt k.bits n) &&& (BitVec.ofInt k.bits m)).toNat), by simp [execOp, ho, c1, c2, hg, binOp, Op.intBits], .sc _, h⟩
    case or => obtain ⟨rfl, h⟩ := h; exact ⟨_, .int k (k.wrap ((BitVec.ofInt k.bits n) ||| (BitVec.ofInt k.bits m)).toNat), by simp [execOp, ho, c1, c2, hg, binOp, Op.intBits], .sc _, h⟩
    case xor => obtain ⟨rfl, h⟩ := h; exact ⟨_, .int k (k.wrap ((BitVec.ofInt k.bits n) ^^^ (BitVec.ofInt k.bits m)).toNat), by simp [execOp, ho, c1, c2, hg, binOp, Op.intBits], .sc _, h⟩
    case andNot => exact h.2.elim
  · obtain ⟨hcn, h⟩ := h
    have hyc : a.eval y = .nilIface → ∃ v, y = .const v := by
      intro e
      rw [e] at hy
      have hz : evO env y = .sc .nilIface := by generalize evO env y = z at hy; cases hy; rfl
      rw [hz] at hcn
      cases y with
      | const v => exact ⟨v, rfl⟩
      | _ => cases hcn
    split at h
    · obtain ⟨b, h1, h2, k⟩ := eqA_run (xo := x) (yo := y) r hx hy hyc h
      refine ⟨_, .bool (false != b), ?_, .sc _, k⟩
      simp only [execOp, ho, Sem.run_bind] at h1 ⊢
      rw [h1]; simp
    · obtain ⟨b, h1, h2, k⟩ := eqA_run (xo := x) (yo := y) r hx hy hyc h
      refine ⟨_, .bool (true != b), ?_, .sc _, k⟩
      simp only [execOp, ho, Sem.run_bind] at h2 ⊢
      rw [h2]; simp
    · exact h.elim

def unK (op : UnOp) (x : AV) (K : AV → Prop) : Prop :=
  match op, x with
  | .not, .sc (.bool b) => K (B (!b))
  | .neg, .sc (.int k n) => arith k (0 - n) K
  | _, _ => False

theorem ok_un {o : Oper} {env : Env} {H : Heap} {K : Env → Heap → Prop} {op : UnOp} {t : TypeId} {x : Operand} (ho : o.op = .unOp op t x)
    (h : unK op (evO env x) (fun v => putK nt o.dst v env (fun env' => K env' H))) : OpOK P w0 nt o env H K := by
  refine ok_pureK _ ?_ h
  clear h
  intro w F M a r er K' h
  have hx := er.ev x
  unfold unK at h
  split at h
  · rename_i b e; rw [e] at hx
    exact ⟨_, .bool (!b), by simp [execOp, ho, hx.sc_inv, Op.unary], .sc _, h⟩
  · rename_i k n e; rw [e] at hx
    have := arith_ok h
    exact ⟨_, .int k (k.wrap (0 - n)), by simp [execOp, ho, hx.sc_inv, Op.unary, Op.intArith], .sc _, this⟩
  · exact h.elim

def intOf? (P : Program) (t : TypeId) : Option IntKind :=
  match P.underlying t with
  | some (.int k) => some k
  | _ => none

def convK (P : Program) (src dst : TypeId) (x : AV) (K : AV → Prop) : Prop :=
  match x with
  | .sc (.int _ n) => match intOf? P dst with
    | some k => (P.underlying src).isSome = true ∧ arith k n K
    | none => False
  | _ => False

theorem ok_conv {o : Oper} {env : Env} {H : Heap} {K : Env → Heap → Prop} {src dst : TypeId} {x : Operand} (ho : o.op = .convert src dst x)
    (h : convK P src dst (evO env x) (fun v => putK nt o.dst v env (fun env' => K env' H))) : OpOK P w0 nt o env H K := by
  refine ok_pureK _ ?_ h
  clear h
  intro w F M a r er K' h
  have hx := er.ev x
  unfold convK at h
  split at h
  · rename_i k n e; rw [e] at hx
    split at h
    · rename_i kd hk
      obtain ⟨hs, h⟩ := h
      obtain ⟨ds, hds⟩ := Option.isSome_iff_exists.1 hs
      have hd : P.underlying dst = some (.int kd) := by
        unfold intOf? at hk
        split at hk
        · cases hk; assumption
        · cases hk
      have := arith_ok h
      exact ⟨_, .int kd (kd.wrap n), by simp [execOp, ho, hx.sc_inv, convert, run_underlying hds, run_underlying hd, Conv.intToInt], .sc _, this⟩
    · exact h.elim
  · exact h.elim

def ifaceK (P : Program) (t : TypeId) (x : AV) (K : AV → Prop) : Prop := isIface P t = false ∧ K (.ifc t x)

theorem ok_iface {o : Oper} {env : Env} {H : Heap} {K : Env → Heap → Prop} {t : TypeId} {x : Operand} (ho : o.op = .makeInterface t x)
    (h : ifaceK P t (evO env x) (fun v => putK nt o.dst v env (fun env' => K env' H))) : OpOK P w0 nt o env H K := by
  refine ok_pureK _ ?_ h
  clear h
  intro w F M a r er K' h
  obtain ⟨hi, k⟩ := h
  refine ⟨_, .iface t (a.eval x), ?_, .ifc (er.ev x), k⟩
  unfold isIface at hi
  split at hi
  · cases hi
  · cases hi
  · rename_i d hn1 hn2
    cases hd : P.underlying t with
    | none => exact absurd hd hn2
    | some d =>
      have hu := run_underlying hd w
      cases d with
      | interface ms => exact absurd hd (hn1 ms)
      | _ => simp [execOp, ho, Instr.makeInterface, hu]

def funcK (fn : Fn) (first caps : List AV) (K : AV → Prop) : Prop :=
  match fn with
  | .func f => K (.clo f first caps)
  | _ => False

theorem VRL_ops {F : Ft} {M : Mt} {env : Env} {a : Act} (er : EnvR F M nt env a) (xs : Array Operand) : VRL F M (xs.toList.map (evO env)) (xs.map a.eval).toList := by
  rw [Array.toList_map]
  exact VRL.map _ fun x _ => er.ev x

theorem ok_makeFunc {o : Oper} {env : Env} {H : Heap} {K : Env → Heap → Prop} {fn : Fn} {first caps : Array Operand} (ho : o.op = .makeFunc fn first caps)
    (h : funcK fn (first.toList.map (evO env)) (caps.toList.map (evO env)) (fun v => putK nt o.dst v env (fun env' => K env' H))) : OpOK P w0 nt o env H K := by
  refine ok_pureK _ ?_ h
  clear h
  intro w F M a r er K' h
  unfold funcK at h
  split at h
  · rename_i f
    have h1 := VRL_ops er first
    have h2 := VRL_ops er caps
    obtain ⟨ff, g1, g2⟩ := h1.fn
    obtain ⟨gg, g3, g4⟩ := h2.fn
    exact ⟨_, .func (.func f) (first.map a.eval) (caps.map a.eval), by simp [execOp, ho, Instr.makeFunc], .clo ff gg (by simp) (by simp) (by simpa using g1) g2 (by simpa using g3) g4, h⟩
  · exact h.elim

/-- Parts laid into cells. -/
def fillA (pl : Nat → Option (Nat × Nat)) (cells : List AV) : List (Nat × AV) → (List AV → Prop) → Prop
  | [], K => K cells
  | (i, v) :: rest, K => match pl i with
    | some (off, size) => v.cellsOne ∧ v.cells.length = size ∧ off + size ≤ cells.length ∧ fillA pl (setL cells off v.cells) rest K
    | none => False

theorem foldl_set (l : List Value) : ∀ (k : Nat) (cs : Array Value) (off : Nat), off + k + l.length ≤ cs.size →
    (l.zipIdx k).foldl (fun cs (p : Value × Nat) => cs.setIfInBounds (off + p.2) p.1) cs = (cs.toList.take (off + k) ++ l ++ cs.toList.drop (off + k + l.length)).toArray := by
  induction l with
  | nil => intro k cs off _; simp
  | cons v l ih =>
    intro k cs off h
    simp only [List.length_cons] at h
    simp only [List.zipIdx_cons, List.foldl_cons]
    rw [ih (k + 1) _ off (by simp; omega)]
    have e := list_seg_step cs.toList (off + k) v l (by simp; omega)
    rw [Array.toList_setIfInBounds]
    rw [show off + (k + 1) = off + k + 1 by omega]
    simp only [List.length_cons]
    rw [e]

theorem fillA_ok {F : Ft} {M : Mt} {pl : Nat → Option (Nat × Nat)} {K : List AV → Prop} : ∀ (parts : List (Nat × AV)) (cparts : List (Nat × Value)) (cells : List AV) (cs : Array Value),
    cparts.length = parts.length → (∀ (i n : Nat) (av : AV), parts[i]? = some (n, av) → ∃ cv, cparts[i]? = some (n, cv) ∧ VR F M av cv) →
    VRC F M cells cs 0 → cs.size = cells.length → fillA pl cells parts K →
    ∃ cells' cs', Instr.fill pl cs cparts = some cs' ∧ VRC F M cells' cs' 0 ∧ cs'.size = cells'.length ∧ cells'.length = cells.length ∧ K cells' := by
  intro parts
  induction parts with
  | nil =>
    intro cparts cells cs hl _ hC hs h
    have : cparts = [] := List.eq_nil_of_length_eq_zero hl
    subst this
    exact ⟨cells, cs, rfl, hC, hs, rfl, h⟩
  | cons p parts ih =>
    obtain ⟨n, av⟩ := p
    intro cparts cells cs hl hp hC hs h
    cases cparts with
    | nil => simp at hl
    | cons q cparts =>
      obtain ⟨cv, hq, hv⟩ := hp 0 n av rfl
      simp at hq; subst hq
      simp only [fillA] at h
      split at h
      · rename_i off size hpl
        obtain ⟨hone, hlen, hfit, h⟩ := h
        have hvl := hv.cellsVRL hone
        have hcl : cv.cells.size = av.cells.length := hv.cellsSize hone
        have hfold : cv.cells.zipIdx.foldl (fun cs (c, j) => cs.setIfInBounds (off + j) c) cs = (cs.toList.take (0 + off) ++ cv.cells.toList ++ cs.toList.drop (0 + off + cv.cells.toList.length)).toArray := by
          rw [← Array.foldl_toList, Array.toList_zipIdx]
          have := foldl_set cv.cells.toList 0 cs off (by simp; omega)
          simp only [Nat.add_zero] at this
          rw [Nat.zero_add]
          exact this
        have hC' := VRC.setL (off := off) hC hvl (hv.cellsOne' hone) (by omega) (by omega)
        rw [← hfold] at hC'
        obtain ⟨cells', cs', h1, h2, h3, h4, h5⟩ := ih cparts (setL cells off av.cells) _ (by simpa using hl) (fun i m x hx => by
          obtain ⟨c, hc, hvc⟩ := hp (i + 1) m x (by simpa using hx); exact ⟨c, by simpa using hc, hvc⟩) hC' (by
            rw [hfold, setL_length]; simp; omega) h
        refine ⟨cells', cs', ?_, h2, h3, by rw [h4, setL_length], h5⟩
        simp only [Instr.fill, hpl]
        have hne : (cv.cells.size ≠ size || off + cv.cells.size > cs.size) = false := by
          simp only [ne_eq, Bool.or_eq_false_iff, decide_eq_false_iff_not]
          omega
        rw [if_neg (by rw [hne]; simp)]
        exact h1
      · exact h.elim

def buildK (P : Program) (t : TypeId) (parts : List (Nat × AV)) (K : AV → Prop) : Prop :=
  aggr P t = true ∧ (match P.underlying t with | some (.struct fs) => fs.toList.all (fun f => 0 < sz P f.type) = true | some (.array _ e) => 0 < sz P e | _ => False) ∧
  match zer P t with
  | some zs => zs.all Value.oneCell' = true ∧ fillA (places P t) (zcells zs) parts (fun cells => K (.agg cells))
  | none => False

theorem mapM_places {fs : List Field} (h : fs.all (fun f => 0 < sz P f.type) = true) (w : World) :
    (List.mapM (m := Sem) (fun f => do pure (f.offset, ← sizeOf f.type)) fs).run P w = .ok (fs.map fun f => (f.offset, sz P f.type)) w := by
  induction fs with
  | nil => rfl
  | cons f fs ih =>
    simp only [List.all_cons, Bool.and_eq_true, decide_eq_true_eq] at h
    simp only [List.mapM_cons, Sem.run_bind, run_sizeOf h.1, Result.andThen_ok, Sem.run_pure, ih h.2, List.map_cons]

theorem ok_build {o : Oper} {env : Env} {H : Heap} {K : Env → Heap → Prop} {t : TypeId} {parts : Array (Nat × Operand)} (ho : o.op = .build t parts)
    (h : buildK P t (parts.toList.map fun p => (p.1, evO env p.2)) (fun v => putK nt o.dst v env (fun env' => K env' H))) : OpOK P w0 nt o env H K := by
  refine ok_pureK _ ?_ h
  clear h
  intro w F M a r er K' h
  obtain ⟨_, hsz, h⟩ := h
  split at h
  · rename_i zs hz
    obtain ⟨i, z, hi, hzz, hcs⟩ := zer_eq hz
    obtain ⟨hone, h⟩ := h
    have hzc : z.cells = zs.toArray := by rw [← hcs]
    obtain ⟨cells', cs', h1, h2, h3, _, k⟩ := fillA_ok (F := F) (M := M) _ (parts.toList.map fun p => (p.1, a.eval p.2)) (zcells zs) zs.toArray (by simp) (fun j n av hj => by
      simp only [List.getElem?_map] at hj ⊢
      cases hp : parts.toList[j]? with
      | none => simp [hp] at hj
      | some p =>
        simp [hp] at hj
        obtain ⟨rfl, rfl⟩ := hj
        exact ⟨a.eval p.2, by simp, er.ev p.2⟩) (VRC_zcells F M hone) (by simp [zcells]) h
    obtain ⟨ff, g1, g2, g3⟩ := h2.fn
    refine ⟨_, .agg cs', ?_, .agg ff h3 (by simpa using g1) g2 g3, k⟩
    have hzv : (zeroValue t).run P w = .ok z w := by simp [zeroValue, typeInfo, hi, hzz]
    cases hu : P.underlying t with
    | none => rw [hu] at hsz; exact hsz.elim
    | some d =>
      have hru := run_underlying hu w
      rw [hu] at hsz
      cases d with
      | struct fs =>
        have hmap := mapM_places hsz w
        have hpl : (fun i => ((fs.toList.map fun f => (f.offset, sz P f.type)).toArray)[i]?) = places P t := by
          funext i; simp [places, hu]
        simp only [execOp, ho, Instr.build, Sem.run_bind, hzv, Result.andThen_ok, hru, Array.mapM_eq_mapM_toList, Sem.run_map, hmap, Array.toList_map]
        simp only [hpl, hzc, h1, Sem.run_pure, Result.andThen_ok]
      | array n e =>
        have hpl : (fun i => some (i * sz P e, sz P e)) = places P t := by
          funext i; simp [places, hu]
        simp only [execOp, ho, Instr.build, Sem.run_bind, hzv, Result.andThen_ok, hru, run_sizeOf hsz, Array.toList_map]
        simp only [hpl, hzc, h1, Sem.run_pure, Result.andThen_ok]
      | _ => exact hsz.elim
  · exact h.elim
end
end Go.Am
