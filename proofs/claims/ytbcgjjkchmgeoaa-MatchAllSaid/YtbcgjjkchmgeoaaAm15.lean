/- The abstract machine, part 15: the words of a walk. -/
import Derived.Test.YtbcgjjkchmgeoaaAm14
import Derived.KernelRfl
namespace Go.Am
open Go

section
variable {P : Program} {w0 : World} {nt : Nat}

/-- A region, and what stands behind it. -/
theorem w_reg (own : List Nat) {id : Nat} {ops : Array Oper} {y : Code} {Q : Exit → Env → Heap → Prop} {env : Env} {H : Heap}
    (h : ∀ K : Env → Heap → Prop, (∀ e h, AWP P w0 nt y Q e h → K e h) → evalOps P w0 nt own ops ops.toList env H K) : AWP P w0 nt (.seq (.region id ops false) y) Q env H :=
  awp_seq (awp_region own (h _ fun _ _ h => h))

/-- A region at the end of a piece. -/
theorem w_reg1 (own : List Nat) {id : Nat} {ops : Array Oper} {Q : Exit → Env → Heap → Prop} {env : Env} {H : Heap}
    (h : ∀ K : Env → Heap → Prop, (∀ e h, Q .normal e h → K e h) → evalOps P w0 nt own ops ops.toList env H K) : AWP P w0 nt (.region id ops false) Q env H :=
  awp_region own (h _ fun _ _ h => h)

/-- A region that draws its order. -/
theorem w_draw (hm : P.follows .mixedOrders = true) (own st : List Nat) {id : Nat} {ops : Array Oper} {y : Code} {Q : Exit → Env → Heap → Prop} {env : Env} {H : Heap} (hok : okDraw own st nt ops (List.range ops.size) = true)
    (h : ∀ K : Env → Heap → Prop, (∀ e h, AWP P w0 nt y Q e h → K e h) → evalD P w0 nt own st ops ops.toList env H K) : AWP P w0 nt (.seq (.region id ops true) y) Q env H :=
  awp_seq (awp_draw hm own st hok (h _ fun _ _ h => h))
theorem w_draw1 (hm : P.follows .mixedOrders = true) (own st : List Nat) {id : Nat} {ops : Array Oper} {Q : Exit → Env → Heap → Prop} {env : Env} {H : Heap} (hok : okDraw own st nt ops (List.range ops.size) = true)
    (h : ∀ K : Env → Heap → Prop, (∀ e h, Q .normal e h → K e h) → evalD P w0 nt own st ops ops.toList env H K) : AWP P w0 nt (.region id ops true) Q env H :=
  awp_draw hm own st hok (h _ fun _ _ h => h)
/-- The same in another order. -/
theorem w_draw_order (hm : P.follows .mixedOrders = true) (own st L : List Nat) {id : Nat} {ops : Array Oper} {y : Code} {Q : Exit → Env → Heap → Prop} {env : Env} {H : Heap} (hok : okDraw own st nt ops L = true)
    (h : ∀ K : Env → Heap → Prop, (∀ e h, AWP P w0 nt y Q e h → K e h) → runD P w0 nt own st ops L env H K) : AWP P w0 nt (.seq (.region id ops true) y) Q env H :=
  awp_seq (awp_draw_order hm own st L hok (h _ fun _ _ h => h))

/-- Into a function. -/
theorem w_enter {f : FuncId} {fn : Func} {c : Code} {ts : List Tmp} {args : List AV} {H : Heap} {K : AV → Heap → Prop}
    (hf : P.funcs[f]? = some fn) (hb : fn.body = some c) (hn : fn.ntmps = nt) (ht : fn.results = (ts.map ResultVar.tmp).toArray) (hl : args.length ≤ nt)
    (hc : callable P f = true) (h : AWP P w0 nt c (RetPost ts K) (argEnv args) H) : ACalls P w0 f args H K := by
  subst hn
  exact acalls_of hf hb ht hl hc h

def condK (v : AV) (x y : Prop) : Prop :=
  match v with
  | .sc (.bool t) => (t = true → x) ∧ (t = false → y)
  | _ => False

theorem w_cond {c : Operand} {x y : Code} {Q : Exit → Env → Heap → Prop} {env : Env} {H : Heap}
    (h : ∀ A B : Prop, (AWP P w0 nt x Q env H → A) → (AWP P w0 nt y Q env H → B) → condK (evO env c) A B) : AWP P w0 nt (.cond c x y) Q env H := by
  have h0 := h _ _ id id
  unfold condK at h0
  split at h0
  · rename_i t e; exact awp_cond e h0.1 h0.2
  · exact h0.elim

theorem inBlock_hit {id : Nat} {Q : Exit → Env → Heap → Prop} {env : Env} {H : Heap} (h : Q .normal env H) : InBlock id Q (.exit id) env H := by
  simp [InBlock]; exact h
theorem inBlock_miss {id id' : Nat} {Q : Exit → Env → Heap → Prop} {env : Env} {H : Heap} (hne : id' ≠ id) (h : Q (.exit id') env H) : InBlock id Q (.exit id') env H := by
  simp [InBlock, hne]; exact h

theorem then_normal {y : Code} {Q Q' : Exit → Env → Heap → Prop} {env : Env} {H : Heap} (h : AWP P w0 nt y Q env H) : Then (AWP P w0 nt y Q) Q' .normal env H := h
theorem then_exit {n : Env → Heap → Prop} {Q : Exit → Env → Heap → Prop} {i : Nat} {env : Env} {H : Heap} (h : Q (.exit i) env H) : Then n Q (.exit i) env H := h
theorem then_ret {n : Env → Heap → Prop} {Q : Exit → Env → Heap → Prop} {env : Env} {H : Heap} (h : Q .ret env H) : Then n Q .ret env H := h
theorem inBlock_normal {id : Nat} {Q : Exit → Env → Heap → Prop} {env : Env} {H : Heap} (h : Q .normal env H) : InBlock id Q .normal env H := h
theorem inBlock_ret {id : Nat} {Q : Exit → Env → Heap → Prop} {env : Env} {H : Heap} (h : Q .ret env H) : InBlock id Q .ret env H := h
theorem post_ret {ts : List Tmp} {K : AV → Heap → Prop} {env : Env} {H : Heap} (h : K (resA ts env) H) : RetPost ts K .ret env H := h

theorem I_B_ne (n : Int) (b : Bool) : (I n = B b) = False := by simp

/-- The number in a slot. -/
def natA : AV → Nat
  | .sc (.int _ n) => n.toNat
  | _ => 0

/-- A list of numbers. -/
@[reducible] def ints (l : List Int) : AV := .sl (l.map I) l.length
/-- A list of lists of numbers. -/
@[reducible] def rows (l : List (List Int)) : AV := .sl (l.map ints) l.length
/-- A list of pairs of numbers. -/
@[reducible] def pairs (l : List (Int × Int)) : AV := .sl (l.flatMap fun e => [I e.1, I e.2]) l.length

theorem ite_B (t a b : Bool) : (if t = true then B a else B b) = B (if t = true then a else b) := by cases t <;> rfl
theorem ite_I (t : Bool) (a b : Int) : (if t = true then I a else I b) = I (if t = true then a else b) := by cases t <;> rfl

theorem upd_get {α : Type} (e : Nat → α) (i : Nat) (v : α) (j : Nat) : upd e i v j = if j = i then v else e j := rfl

attribute [simp] evalOps stepA guardO wantA evalOp ownD pureB isNilO opC opX nilCheckK pickK putK evO condK natA evalD stepD evalOpD inSt
attribute [simp] loadK loadV storeK setL nilOwnK isNilS boxK AV.cells AV.cellsOne AV.one binK notNilI isConstO binA arith eqA eqS unK convK ifaceK funcK sliceOpK slLen intA sliceK fieldAddrK indexAddrK fieldK indexK extractK lenK minmaxK callK
attribute [simp] lookupK makeMapK mapUpdateK i64ok upd_get argEnv resA wk allocK makeSliceK buildSliceK buildK fillA appendK copyK clearK zrep_one zcells

theorem cellsAt_box {H : Heap} {r : Nat} {cells : List AV} (h : H r = some (.box cells)) : cellsAt H r 0 = some cells := by simp [cellsAt, h]
theorem cellsAt_arr {H : Heap} {r es n : Nat} {e : TypeId} {cells : List AV} (h : H r = some (.arr es e cells n)) : cellsAt H r n = some cells := by simp [cellsAt, h]
theorem setAt_box {H : Heap} {r : Nat} {cells cells' : List AV} (h : H r = some (.box cells)) : setAt H r cells' = upd H r (some (.box cells')) := by simp [setAt, h]
theorem setAt_arr {H : Heap} {r es n : Nat} {e : TypeId} {cells cells' : List AV} (h : H r = some (.arr es e cells n)) : setAt H r cells' = upd H r (some (.arr es e cells' n)) := by simp [setAt, h]
end
end Go.Am
