/- The abstract machine, part 1: abstract values, abstract heaps, how they stand to the model's worlds. -/
import Derived.Laws.AppendOwn
import Derived.Laws.MakeOwn
import Derived.Laws.CopyRow
import Derived.Laws.Slices
import Derived.Calls
import Derived.Tactics
import Derived.Below
namespace Go.Am
open Go

/-- Abstract values. 'sl': a slice whose cells never change again, read as a list of cells; 'csl': the same, its capacity its length.
'ref': elements off to off + len of block r, as long as that block's count is top; 'cref': the same, its capacity its length.
'ptr': cell off of block r. 'eptr': cell off of cells that never change. -/
inductive AV where
  | sc (v : Value)
  | sl (cells : List AV) (n : Nat)
  | csl (cells : List AV) (n : Nat)
  | ref (r off len top : Nat)
  | cref (r off len top : Nat)
  | ptr (r top off : Nat)
  | eptr (cells : List AV) (off : Nat)
  | agg (cells : List AV)
  | tup (vs : List AV)
  | clo (f : FuncId) (first caps : List AV)
  | ifc (t : TypeId) (v : AV)
  | mp (r : Nat)

instance : Inhabited AV := ⟨.sc undef⟩

/-- One cell of memory bears it. -/
def AV.one : AV → Bool
  | .agg _ => false
  | .tup _ => false
  | .sc v => v.oneCell'
  | _ => true

/-- Blocks of the abstract heap: an array that grows (elements of es cells each), a variable, a map of ints. -/
inductive Blk where
  | arr (es : Nat) (e : TypeId) (cells : List AV) (n : Nat)
  | box (cells : List AV)
  | mapI (kv : List (Int × Int))

def Blk.gen : Blk → Nat
  | .arr _ _ _ n => n
  | _ => 0

def Blk.isArr : Blk → Bool
  | .arr .. => true
  | _ => false

abbrev Env := Nat → AV
abbrev Heap := Nat → Option Blk
/-- What each block's generation stands at: an address, a capacity, an element's size. -/
abbrev Mt := Nat → Nat → Option (Option Addr × Nat × Nat)
/-- Blocks of the world that never change again. -/
abbrev Ft := Nat → Option Obj

def upd {α : Type} (e : Nat → α) (i : Nat) (v : α) : Nat → α := fun j => if j = i then v else e j

theorem upd_apply {α : Type} (e : Nat → α) (i : Nat) (v : α) (j : Nat) : upd e i v j = if j = i then v else e j := rfl
theorem upd_same {α : Type} (e : Nat → α) (i : Nat) (v : α) : upd e i v i = v := by simp [upd]
theorem upd_ne {α : Type} (e : Nat → α) (i : Nat) (v : α) {j : Nat} (h : j ≠ i) : upd e i v j = e j := by simp [upd, h]
theorem upd_upd {α : Type} (e : Nat → α) (i : Nat) (u v : α) : upd (upd e i u) i v = upd e i v := by
  funext j; unfold upd; split <;> rfl
theorem upd_comm {α : Type} (e : Nat → α) {i j : Nat} (u v : α) (h : i ≠ j) : upd (upd e i u) j v = upd (upd e j v) i u := by
  funext k; unfold upd; by_cases h1 : k = j
  · subst h1; simp; intro h2; exact absurd h2.symm h
  · simp [h1]
theorem upd_self {α : Type} (e : Nat → α) (i : Nat) : upd e i (e i) = e := by
  funext j; unfold upd; split
  · rename_i h; rw [h]
  · rfl

inductive VR (F : Ft) (M : Mt) : AV → Value → Prop
  | sc (v : Value) : VR F M (.sc v) v
  | sl {cells : List AV} {n b o c : Nat} {cs : Array Value} {e : TypeId} {fz : Nat × Nat} (f : Nat → Value)
      (hF : F b = some (.cells cs e fz)) (hn : n ≤ c)
      (h1 : ∀ (i : Nat) (av : AV), cells[i]? = some av → cs[o + i]? = some (f i)) (h2 : ∀ (i : Nat) (av : AV), cells[i]? = some av → VR F M av (f i))
      (ho : ∀ (i : Nat) (av : AV), cells[i]? = some av → av.one = true) : VR F M (.sl cells n) (.slice (some ⟨b, o, none⟩) n c)
  | sl0 {a : Option Addr} {c : Nat} : VR F M (.sl [] 0) (.slice a 0 c)
  | csl {cells : List AV} {n b o : Nat} {cs : Array Value} {e : TypeId} {fz : Nat × Nat} (f : Nat → Value)
      (hF : F b = some (.cells cs e fz))
      (h1 : ∀ (i : Nat) (av : AV), cells[i]? = some av → cs[o + i]? = some (f i)) (h2 : ∀ (i : Nat) (av : AV), cells[i]? = some av → VR F M av (f i))
      (ho : ∀ (i : Nat) (av : AV), cells[i]? = some av → av.one = true) : VR F M (.csl cells n) (.slice (some ⟨b, o, none⟩) n n)
  | csl0 {a : Option Addr} : VR F M (.csl [] 0) (.slice a 0 0)
  | ref {r off len top cap es c : Nat} {a b : Option Addr} (hM : M r top = some (a, cap, es)) (hl : len ≤ c) (hc : off + c ≤ cap)
      (hz : c = 0 ∨ ∃ g o, a = some ⟨g, o, none⟩ ∧ b = some ⟨g, o + off * es, none⟩) : VR F M (.ref r off len top) (.slice b len c)
  | cref {r off len top cap es : Nat} {a b : Option Addr} (hM : M r top = some (a, cap, es)) (hc : off + len ≤ cap)
      (hz : len = 0 ∨ ∃ g o, a = some ⟨g, o, none⟩ ∧ b = some ⟨g, o + off * es, none⟩) : VR F M (.cref r off len top) (.slice b len len)
  | ptr {r top off g o cap es : Nat} (hM : M r top = some (some ⟨g, o, none⟩, cap, es)) : VR F M (.ptr r top off) (.pointer (some ⟨g, o + off, none⟩))
  | eptr {cells : List AV} {off b o : Nat} {cs : Array Value} {e : TypeId} {fz : Nat × Nat} (f : Nat → Value)
      (hF : F b = some (.cells cs e fz))
      (h1 : ∀ (i : Nat) (av : AV), cells[i]? = some av → cs[o + i]? = some (f i)) (h2 : ∀ (i : Nat) (av : AV), cells[i]? = some av → VR F M av (f i))
      (ho : ∀ (i : Nat) (av : AV), cells[i]? = some av → av.one = true) : VR F M (.eptr cells off) (.pointer (some ⟨b, o + off, none⟩))
  | agg {cells : List AV} {cs : Array Value} (f : Nat → Value) (hs : cs.size = cells.length)
      (h1 : ∀ (i : Nat) (av : AV), cells[i]? = some av → cs[i]? = some (f i)) (h2 : ∀ (i : Nat) (av : AV), cells[i]? = some av → VR F M av (f i))
      (ho : ∀ (i : Nat) (av : AV), cells[i]? = some av → av.one = true) : VR F M (.agg cells) (.agg cs)
  | tup {vs : List AV} {cs : Array Value} (f : Nat → Value) (hs : cs.size = vs.length)
      (h1 : ∀ (i : Nat) (av : AV), vs[i]? = some av → cs[i]? = some (f i)) (h2 : ∀ (i : Nat) (av : AV), vs[i]? = some av → VR F M av (f i)) : VR F M (.tup vs) (.tuple cs)
  | clo {fn : FuncId} {first caps : List AV} {cs ds : Array Value} (f g : Nat → Value) (hs : cs.size = first.length) (ht : ds.size = caps.length)
      (h1 : ∀ (i : Nat) (av : AV), first[i]? = some av → cs[i]? = some (f i)) (h2 : ∀ (i : Nat) (av : AV), first[i]? = some av → VR F M av (f i))
      (h3 : ∀ (i : Nat) (av : AV), caps[i]? = some av → ds[i]? = some (g i)) (h4 : ∀ (i : Nat) (av : AV), caps[i]? = some av → VR F M av (g i)) : VR F M (.clo fn first caps) (.func (.func fn) cs ds)
  | ifc {t : TypeId} {v : AV} {cv : Value} (h : VR F M v cv) : VR F M (.ifc t v) (.iface t cv)
  | mp {r g o cap es : Nat} (hM : M r 0 = some (some ⟨g, o, none⟩, cap, es)) : VR F M (.mp r) (.map (some g))

/-- Two lists, cell by cell. -/
def VRL (F : Ft) (M : Mt) (avs : List AV) (cvs : List Value) : Prop :=
  avs.length = cvs.length ∧ ∀ (i : Nat) (av : AV) (cv : Value), avs[i]? = some av → cvs[i]? = some cv → VR F M av cv

/-- Cells of a row from o on. -/
def VRC (F : Ft) (M : Mt) (cells : List AV) (cs : Array Value) (o : Nat) : Prop :=
  ∀ (i : Nat) (av : AV), cells[i]? = some av → av.one = true ∧ ∃ cv, cs[o + i]? = some cv ∧ VR F M av cv

structure Ext (F F' : Ft) (M M' : Mt) : Prop where
  f : ∀ b o, F b = some o → F' b = some o
  m : ∀ r t x, M r t = some x → M' r t = some x

theorem Ext.refl (F : Ft) (M : Mt) : Ext F F M M := ⟨fun _ _ h => h, fun _ _ _ h => h⟩
theorem Ext.trans {F F' F'' : Ft} {M M' M'' : Mt} (h : Ext F F' M M') (k : Ext F' F'' M' M'') : Ext F F'' M M'' :=
  ⟨fun b o x => k.f b o (h.f b o x), fun r t x y => k.m r t x (h.m r t x y)⟩

theorem VR.mono {F F' : Ft} {M M' : Mt} (x : Ext F F' M M') {av : AV} {cv : Value} (h : VR F M av cv) : VR F' M' av cv := by
  induction h with
  | sc v => exact .sc v
  | sl f hF hn h1 _ ho ih => exact .sl f (x.f _ _ hF) hn h1 ih ho
  | sl0 => exact .sl0
  | csl f hF h1 _ ho ih => exact .csl f (x.f _ _ hF) h1 ih ho
  | csl0 => exact .csl0
  | ref hM hl hc hz => exact .ref (x.m _ _ _ hM) hl hc hz
  | cref hM hc hz => exact .cref (x.m _ _ _ hM) hc hz
  | ptr hM => exact .ptr (x.m _ _ _ hM)
  | eptr f hF h1 _ ho ih => exact .eptr f (x.f _ _ hF) h1 ih ho
  | agg f hs h1 _ ho ih => exact .agg f hs h1 ih ho
  | tup f hs h1 _ ih => exact .tup f hs h1 ih
  | clo f g hs ht h1 _ h3 _ ih1 ih2 => exact .clo f g hs ht h1 ih1 h3 ih2
  | ifc _ ih => exact .ifc ih
  | mp hM => exact .mp (x.m _ _ _ hM)

theorem VRL.mono {F F' : Ft} {M M' : Mt} (x : Ext F F' M M') {avs : List AV} {cvs : List Value} (h : VRL F M avs cvs) : VRL F' M' avs cvs :=
  ⟨h.1, fun i av cv a b => (h.2 i av cv a b).mono x⟩
theorem VRC.mono {F F' : Ft} {M M' : Mt} (x : Ext F F' M M') {cells : List AV} {cs : Array Value} {o : Nat} (h : VRC F M cells cs o) : VRC F' M' cells cs o :=
  fun i av a => let ⟨p, cv, q, r⟩ := h i av a; ⟨p, cv, q, r.mono x⟩

theorem VR.one {F : Ft} {M : Mt} {av : AV} {cv : Value} (h : VR F M av cv) : av.one = cv.oneCell' := by
  cases h <;> rfl

theorem VRC.fn {F : Ft} {M : Mt} {cells : List AV} {cs : Array Value} {o : Nat} (h : VRC F M cells cs o) :
    ∃ f : Nat → Value, (∀ (i : Nat) (av : AV), cells[i]? = some av → cs[o + i]? = some (f i)) ∧ (∀ (i : Nat) (av : AV), cells[i]? = some av → VR F M av (f i)) ∧ (∀ (i : Nat) (av : AV), cells[i]? = some av → av.one = true) := by
  refine ⟨fun i => (cs[o + i]?).getD undef, ?_, ?_, fun i av a => (h i av a).1⟩
  · intro i av a
    obtain ⟨_, cv, hc, _⟩ := h i av a
    simp [hc]
  · intro i av a
    obtain ⟨_, cv, hc, hv⟩ := h i av a
    simpa [hc] using hv

theorem VRC.of {F : Ft} {M : Mt} {cells : List AV} {cs : Array Value} {o : Nat} {f : Nat → Value}
    (h1 : ∀ (i : Nat) (av : AV), cells[i]? = some av → cs[o + i]? = some (f i)) (h2 : ∀ (i : Nat) (av : AV), cells[i]? = some av → VR F M av (f i))
    (ho : ∀ (i : Nat) (av : AV), cells[i]? = some av → av.one = true) : VRC F M cells cs o :=
  fun i av a => ⟨ho i av a, f i, h1 i av a, h2 i av a⟩

theorem VRL.fn {F : Ft} {M : Mt} {avs : List AV} {cvs : List Value} (h : VRL F M avs cvs) :
    ∃ f : Nat → Value, (∀ (i : Nat) (av : AV), avs[i]? = some av → cvs.toArray[i]? = some (f i)) ∧ (∀ (i : Nat) (av : AV), avs[i]? = some av → VR F M av (f i)) := by
  refine ⟨fun i => (cvs[i]?).getD undef, ?_, ?_⟩
  · intro i av a
    have hi : i < cvs.length := by rw [← h.1]; exact (List.getElem?_eq_some_iff.1 a).1
    simp [hi]
  · intro i av a
    have hi : i < cvs.length := by rw [← h.1]; exact (List.getElem?_eq_some_iff.1 a).1
    have := h.2 i av cvs[i] a (by simp [hi])
    simpa [hi] using this

theorem VRL.of {F : Ft} {M : Mt} {avs : List AV} {cs : Array Value} {f : Nat → Value} (hs : cs.size = avs.length)
    (h1 : ∀ (i : Nat) (av : AV), avs[i]? = some av → cs[i]? = some (f i)) (h2 : ∀ (i : Nat) (av : AV), avs[i]? = some av → VR F M av (f i)) : VRL F M avs cs.toList :=
  ⟨by simp [hs], fun i av cv a b => by
    have e := h1 i av a
    simp only [Array.getElem?_toList] at b
    rw [e] at b; cases b; exact h2 i av a⟩

theorem VRL.nil {F : Ft} {M : Mt} : VRL F M [] [] := ⟨rfl, by simp⟩
theorem VRL.cons {F : Ft} {M : Mt} {av : AV} {cv : Value} {avs : List AV} {cvs : List Value} (h : VR F M av cv) (t : VRL F M avs cvs) : VRL F M (av :: avs) (cv :: cvs) := by
  refine ⟨by simp [t.1], fun i a c x y => ?_⟩
  cases i with
  | zero => simp at x y; subst x y; exact h
  | succ i => simp at x y; exact t.2 i a c x y
theorem VRL.append {F : Ft} {M : Mt} {avs bvs : List AV} {cvs dvs : List Value} (h : VRL F M avs cvs) (t : VRL F M bvs dvs) : VRL F M (avs ++ bvs) (cvs ++ dvs) := by
  refine ⟨by simp [h.1, t.1], fun i a c x y => ?_⟩
  rw [List.getElem?_append] at x y
  rw [h.1] at x
  by_cases hi : i < cvs.length
  · rw [if_pos hi] at x y; exact h.2 i a c x y
  · rw [if_neg hi] at x y; exact t.2 _ a c x y
theorem VRL.get {F : Ft} {M : Mt} {avs : List AV} {cvs : List Value} (h : VRL F M avs cvs) {i : Nat} {av : AV} (a : avs[i]? = some av) : ∃ cv, cvs[i]? = some cv ∧ VR F M av cv := by
  have hi : i < cvs.length := by rw [← h.1]; exact (List.getElem?_eq_some_iff.1 a).1
  exact ⟨cvs[i], by simp [hi], h.2 i av _ a (by simp [hi])⟩
theorem VRL.map {F : Ft} {M : Mt} {α : Type} {f : α → AV} {g : α → Value} (l : List α) (h : ∀ x ∈ l, VR F M (f x) (g x)) : VRL F M (l.map f) (l.map g) := by
  induction l with
  | nil => exact .nil
  | cons x l ih => exact .cons (h x (by simp)) (ih fun y hy => h y (by simp [hy]))

/-- Cells of a value: those of an aggregate, or the one that it is. -/
def AV.cells : AV → List AV
  | .agg cs => cs
  | v => [v]

theorem VR.cellsL {F : Ft} {M : Mt} {av : AV} {cv : Value} (h : VR F M av cv) (hsc : ∀ v, av = .sc v → v.oneCell' = true) : VRL F M av.cells cv.cells.toList := by
  cases h with
  | agg f hs h1 h2 ho => exact VRL.of hs h1 h2
  | sc =>
    have := hsc cv rfl
    cases cv <;> first | exact .cons (.sc _) .nil | (simp [Value.oneCell'] at this)
  | sl f hF hn h1 h2 ho => exact .cons (.sl f hF hn h1 h2 ho) .nil
  | sl0 => exact .cons .sl0 .nil
  | csl f hF h1 h2 ho => exact .cons (.csl f hF h1 h2 ho) .nil
  | csl0 => exact .cons .csl0 .nil
  | ref hM hl hc hz => exact .cons (.ref hM hl hc hz) .nil
  | cref hM hc hz => exact .cons (.cref hM hc hz) .nil
  | ptr hM => exact .cons (.ptr hM) .nil
  | eptr f hF h1 h2 ho => exact .cons (.eptr f hF h1 h2 ho) .nil
  | tup f hs h1 h2 => exact .cons (.tup f hs h1 h2) .nil
  | clo f g hs ht h1 h2 h3 h4 => exact .cons (.clo f g hs ht h1 h2 h3 h4) .nil
  | ifc h => exact .cons (.ifc h) .nil
  | mp hM => exact .cons (.mp hM) .nil

/-- Whether each of a value's cells is one cell's. -/
def AV.cellsOne (v : AV) : Prop :=
  match v with
  | .agg _ => True
  | v => v.one = true

theorem VR.cellsOne' {F : Ft} {M : Mt} {av : AV} {cv : Value} (h : VR F M av cv) (hc : av.cellsOne) : ∀ (i : Nat) (x : AV), av.cells[i]? = some x → x.one = true := by
  cases h with
  | agg f hs h1 h2 ho => exact ho
  | _ =>
    intro i x hx
    simp only [AV.cells] at hx
    cases i with
    | zero => simp at hx; subst hx; first | exact hc | rfl
    | succ i => simp at hx

theorem VR.cellsC {F : Ft} {M : Mt} {av : AV} {cv : Value} (h : VR F M av cv) (hc : av.cellsOne) : VRC F M av.cells cv.cells 0 := by
  have h1 := h.cellsOne' hc
  have h2 : VRL F M av.cells cv.cells.toList := by
    apply h.cellsL
    intro v e
    subst e
    exact hc
  intro i x hx
  obtain ⟨cv', hcv, hv⟩ := h2.get hx
  exact ⟨h1 i x hx, cv', by simpa using hcv, hv⟩

theorem VR.cellsSize {F : Ft} {M : Mt} {av : AV} {cv : Value} (h : VR F M av cv) (hc : av.cellsOne) : cv.cells.size = av.cells.length := by
  have h2 : VRL F M av.cells cv.cells.toList := by
    apply h.cellsL
    intro v e
    subst e
    exact hc
  simpa using h2.1.symm

/-- The world's block g is what block r holds. -/
def Owns (M : Mt) (r : Nat) (k : Blk) (g : Nat) : Prop :=
  ∃ o cap es, M r k.gen = some (some ⟨g, o, none⟩, cap, es) ∧ (k.isArr = true → cap ≠ 0)

def MapRep (kv : List (Int × Int)) (es : Array MapEntry) : Prop :=
  es.toList.map (fun e => (e.key, e.val)) = kv.map (fun p => (Value.int .i64 p.1, Value.int .i64 p.2))

def BlkR (F : Ft) (M : Mt) (w : World) (r : Nat) : Blk → Prop
  | .arr es e cells n => cells.length = n * es ∧ 0 < es ∧ ∃ a cap, M r n = some (a, cap, es) ∧ n ≤ cap ∧ cap ≤ maxLen ∧
      ((cap = 0) ∨ ∃ g o cs, a = some ⟨g, o, none⟩ ∧ F g = none ∧ w.heap[g]? = some (.cells cs e (0, 0)) ∧ o + cap * es ≤ cs.size ∧ VRC F M cells cs o)
  | .box cells => ∃ g cs e, M r 0 = some (some ⟨g, 0, none⟩, 1, 1) ∧ F g = none ∧ w.heap[g]? = some (.cells cs e (0, 0)) ∧ cs.size = cells.length ∧ VRC F M cells cs 0
  | .mapI kv => ∃ g es clock, M r 0 = some (some ⟨g, 0, none⟩, 1, 1) ∧ F g = none ∧ w.heap[g]? = some (.map es clock) ∧ MapRep kv es ∧ (kv.map (·.1)).Nodup

structure Rel (w0 w : World) (F : Ft) (M : Mt) (H : Heap) : Prop where
  os : w.os = w0.os
  tape : w.tape = w0.tape
  output : w.output = w0.output
  F0 : ∀ b, b < w0.heap.size → F b = w0.heap[b]?
  hF : ∀ b o, F b = some o → w.heap[b]? = some o
  blk : ∀ r k, H r = some k → BlkR F M w r k
  disj : ∀ r1 r2 k1 k2 g, H r1 = some k1 → H r2 = some k2 → Owns M r1 k1 g → Owns M r2 k2 g → r1 = r2
  gens : ∀ r k, H r = some k → ∀ t, k.gen < t → M r t = none
  fresh : ∃ N, ∀ r, N ≤ r → H r = none ∧ ∀ t, M r t = none

/-- All that was there when the law was called is as it was. -/
theorem Rel.below {w0 w : World} {F : Ft} {M : Mt} {H : Heap} (h : Rel w0 w F M H) : Go.RowKit.Below w0.heap.size w0 w := by
  refine ⟨h.os, h.tape, h.output, ?_, ?_⟩
  · rcases Nat.eq_zero_or_pos w0.heap.size with hz | hz
    · omega
    · have hb : w0.heap.size - 1 < w0.heap.size := by omega
      have e := h.hF (w0.heap.size - 1) w0.heap[w0.heap.size - 1] (by rw [h.F0 _ hb]; simp [hb])
      have := (Array.getElem?_eq_some_iff.1 e).1
      omega
  · intro k hk
    have e := h.hF k w0.heap[k] (by rw [h.F0 _ hk]; simp [hk])
    rw [e]; simp [hk]

/-- Fewer blocks. -/
def Sub (H H' : Heap) : Prop := ∀ r k, H r = some k → H' r = some k
theorem Sub.refl (H : Heap) : Sub H H := fun _ _ h => h
theorem Sub.trans {H H' H'' : Heap} (a : Sub H H') (b : Sub H' H'') : Sub H H'' := fun r k h => b r k (a r k h)
theorem Sub.upd {H H' : Heap} (a : Sub H H') {r : Nat} (h : H r = none) (k : Option Blk) : Sub H (upd H' r k) := by
  intro r' k' h'
  by_cases e : r' = r
  · subst e; rw [h] at h'; cases h'
  · rw [upd_ne _ _ _ e]; exact a _ _ h'
theorem Sub.none {H : Heap} (r : Nat) : Sub (Am.upd H r none) H := by
  intro r' k' h'
  by_cases e : r' = r
  · subst e; simp [upd_same] at h'
  · rwa [upd_ne _ _ _ e] at h'

theorem Rel.sub {w0 w : World} {F : Ft} {M : Mt} {H H' : Heap} (h : Rel w0 w F M H') (s : Sub H H') : Rel w0 w F M H := by
  obtain ⟨N, hN⟩ := h.fresh
  refine ⟨h.os, h.tape, h.output, h.F0, h.hF, fun r k x => h.blk r k (s r k x), fun r1 r2 k1 k2 g a b => h.disj r1 r2 k1 k2 g (s _ _ a) (s _ _ b), fun r k x => h.gens r k (s r k x), N, fun r hr => ⟨?_, (hN r hr).2⟩⟩
  cases e : H r with
  | none => rfl
  | some k => have := s r k e; rw [(hN r hr).1] at this; cases this

theorem Rel.drew {w0 w : World} {F : Ft} {M : Mt} {H : Heap} (h : Rel w0 w F M H) : Rel w0 { w with drawn := w.drawn + 1 } F M H :=
  ⟨h.os, h.tape, h.output, h.F0, h.hF, fun r k x => by
    have := h.blk r k x
    cases k <;> exact this, h.disj, h.gens, h.fresh⟩

theorem Rel.F_lt {w0 w : World} {F : Ft} {M : Mt} {H : Heap} (h : Rel w0 w F M H) {b : Nat} {o : Obj} (hb : F b = some o) : b < w.heap.size :=
  (Array.getElem?_eq_some_iff.1 (h.hF b o hb)).1

theorem Rel.F_none {w0 w : World} {F : Ft} {M : Mt} {H : Heap} (h : Rel w0 w F M H) {b : Nat} (hb : w.heap.size ≤ b) : F b = none := by
  cases e : F b with
  | none => rfl
  | some o => have := h.F_lt e; omega

theorem BlkR.mono {F F' : Ft} {M M' : Mt} {w w' : World} {r : Nat} {k : Blk} (x : Ext F F' M M') (h : BlkR F M w r k)
    (hw : ∀ g, Owns M r k g → w'.heap[g]? = w.heap[g]? ∧ F' g = none) : BlkR F' M' w' r k := by
  cases k with
  | arr es e cells n =>
    obtain ⟨h1, h2, a, cap, h3, h4, h5, h6⟩ := h
    refine ⟨h1, h2, a, cap, x.m _ _ _ h3, h4, h5, ?_⟩
    rcases h6 with h6 | ⟨g, o, cs, rfl, h7, h8, h9, h10⟩
    · exact .inl h6
    · by_cases hc : cap = 0
      · exact .inl hc
      · have hg := hw g ⟨o, cap, es, h3, fun _ => hc⟩
        exact .inr ⟨g, o, cs, rfl, hg.2, hg.1.trans h8, h9, h10.mono x⟩
  | box cells =>
    obtain ⟨g, cs, e, h1, h2, h3, h4, h5⟩ := h
    have hg := hw g ⟨0, 1, 1, h1, fun h => by simp [Blk.isArr] at h⟩
    exact ⟨g, cs, e, x.m _ _ _ h1, hg.2, hg.1.trans h3, h4, h5.mono x⟩
  | mapI kv =>
    obtain ⟨g, cs, e, h1, h2, h3, h4⟩ := h
    have hg := hw g ⟨0, 1, 1, h1, fun h => by simp [Blk.isArr] at h⟩
    exact ⟨g, cs, e, x.m _ _ _ h1, hg.2, hg.1.trans h3, h4⟩

/-- Who owns a block is in the world, and not among what never changes. -/
theorem Rel.owned {w0 w : World} {F : Ft} {M : Mt} {H : Heap} (h : Rel w0 w F M H) {r g : Nat} {k : Blk} (hr : H r = some k) (ho : Owns M r k g) :
    F g = none ∧ g < w.heap.size := by
  obtain ⟨o, cap, es, hm, hc⟩ := ho
  have hb := h.blk r k hr
  cases k with
  | arr es' e cells n =>
    obtain ⟨h1, h2, a, cap', h3, h4, h5, h6⟩ := hb
    simp only [Blk.gen] at hm
    rw [hm] at h3; cases h3
    rcases h6 with h6 | ⟨g', o', cs, e1, h7, h8, h9, h10⟩
    · exact absurd h6 (hc rfl)
    · cases e1; exact ⟨h7, (Array.getElem?_eq_some_iff.1 h8).1⟩
  | box cells =>
    obtain ⟨g', cs, e, h1, h2, h3, h4, h5⟩ := hb
    simp only [Blk.gen] at hm
    rw [hm] at h1; cases h1
    exact ⟨h2, (Array.getElem?_eq_some_iff.1 h3).1⟩
  | mapI kv =>
    obtain ⟨g', cs, e, h1, h2, h3, h4⟩ := hb
    simp only [Blk.gen] at hm
    rw [hm] at h1; cases h1
    exact ⟨h2, (Array.getElem?_eq_some_iff.1 h3).1⟩

/-- THE ONE STEP OF THE HEAP: block r is taken out (or was not there), block r' comes in, holding the world's block g' or none; only what r owned has changed. -/
theorem Rel.step {w0 w w' : World} {F : Ft} {M M' : Mt} {H : Heap} (h : Rel w0 w F M H) (r r' : Nat) (k' : Blk)
    (hos : w'.os = w.os) (htape : w'.tape = w.tape) (hout : w'.output = w.output)
    (hsame : ∀ b, b < w.heap.size → (∀ k, H r = some k → ¬ Owns M r k b) → w'.heap[b]? = w.heap[b]?)
    (hM : ∀ s t, M' s t = M s t ∨ (s = r' ∧ t = k'.gen)) (hMx : ∀ x, M r' k'.gen = some x → M' r' k'.gen = some x)
    (hr' : r' = r ∨ H r' = none)
    (hk : BlkR F M' w' r' k') (hg : ∀ g, Owns M' r' k' g → w.heap.size ≤ g ∨ ∃ k, H r = some k ∧ Owns M r k g)
    (hgen : ∀ t, k'.gen < t → M r' t = none) :
    Ext F F M M' ∧ Rel w0 w' F M' (upd (upd H r none) r' (some k')) := by
  have x : Ext F F M M' := ⟨fun _ _ h => h, fun s t y hy => by
    rcases hM s t with e | ⟨e1, e2⟩
    · rw [e]; exact hy
    · subst e1 e2; exact hMx y hy⟩
  have old : ∀ s k, (upd (upd H r none) r' (some k')) s = some k → s ≠ r' → H s = some k ∧ s ≠ r := by
    intro s k hs hne
    rw [upd_ne _ _ _ hne] at hs
    by_cases e : s = r
    · subst e; simp [upd_same] at hs
    · rw [upd_ne _ _ _ e] at hs; exact ⟨hs, e⟩
  have own : ∀ s k, s ≠ r' → ∀ g, Owns M' s k g → Owns M s k g := by
    intro s k hne g ⟨o, cap, es, hm, hc⟩
    rcases hM s k.gen with e | ⟨e1, _⟩
    · exact ⟨o, cap, es, e ▸ hm, hc⟩
    · exact absurd e1 hne
  refine ⟨x, ⟨hos.trans h.os, htape.trans h.tape, hout.trans h.output, h.F0, ?_, ?_, ?_, ?_, ?_⟩⟩
  · intro b o hb
    rw [hsame b (h.F_lt hb) (fun k hk ho => by rw [(h.owned hk ho).1] at hb; cases hb)]
    exact h.hF b o hb
  · intro s k hs
    by_cases e : s = r'
    · subst e; simp [upd_same] at hs; subst hs; exact hk
    · obtain ⟨hs', hne⟩ := old s k hs e
      refine (h.blk s k hs').mono x fun g hg => ?_
      have hgo := h.owned hs' hg
      refine ⟨hsame g hgo.2 fun k2 hk2 ho => hne (h.disj s r k k2 g hs' hk2 hg ho), hgo.1⟩
  · intro s1 s2 k1 k2 g hs1 hs2 ho1 ho2
    by_cases e1 : s1 = r' <;> by_cases e2 : s2 = r'
    · rw [e1, e2]
    · subst e1
      simp [upd_same] at hs1; subst hs1
      obtain ⟨hs2', hne⟩ := old s2 k2 hs2 e2
      have ho2' := own s2 k2 e2 g ho2
      rcases hg g ho1 with hlt | ⟨k3, hk3, ho3⟩
      · have := (h.owned hs2' ho2').2; omega
      · exact absurd (h.disj s2 r k2 k3 g hs2' hk3 ho2' ho3) hne
    · subst e2
      simp [upd_same] at hs2; subst hs2
      obtain ⟨hs1', hne⟩ := old s1 k1 hs1 e1
      have ho1' := own s1 k1 e1 g ho1
      rcases hg g ho2 with hlt | ⟨k3, hk3, ho3⟩
      · have := (h.owned hs1' ho1').2; omega
      · exact absurd (h.disj s1 r k1 k3 g hs1' hk3 ho1' ho3) hne
    · obtain ⟨hs1', _⟩ := old s1 k1 hs1 e1
      obtain ⟨hs2', _⟩ := old s2 k2 hs2 e2
      exact h.disj s1 s2 k1 k2 g hs1' hs2' (own _ _ e1 g ho1) (own _ _ e2 g ho2)
  · intro s k hs t ht
    by_cases e : s = r'
    · subst e
      simp [upd_same] at hs; subst hs
      rcases hM s t with e1 | ⟨_, e2⟩
      · rw [e1]; exact hgen t ht
      · omega
    · obtain ⟨hs', _⟩ := old s k hs e
      rcases hM s t with e1 | ⟨e2, _⟩
      · rw [e1]; exact h.gens s k hs' t ht
      · exact absurd e2 e
  · obtain ⟨N, hN⟩ := h.fresh
    refine ⟨max N (r' + 1), fun s hs => ?_⟩
    have h1 : s ≠ r' := by omega
    refine ⟨?_, fun t => ?_⟩
    · rw [upd_ne _ _ _ h1]
      by_cases e : s = r
      · subst e; simp [upd_same]
      · rw [upd_ne _ _ _ e]; exact (hN s (by omega)).1
    · rcases hM s t with e | ⟨e, _⟩
      · rw [e]; exact (hN s (by omega)).2 t
      · exact absurd e h1

/-- A block of the heap is made one that never changes again. -/
theorem Rel.freeze {w0 w : World} {F : Ft} {M : Mt} {H : Heap} (h : Rel w0 w F M H) (r : Nat) (k : Blk) (hr : H r = some k) (g : Nat) (hg : Owns M r k g) (o : Obj) (hw : w.heap[g]? = some o) :
    Ext F (upd F g (some o)) M M ∧ Rel w0 w (upd F g (some o)) M (upd H r none) := by
  have hown := h.owned hr hg
  have x : Ext F (upd F g (some o)) M M := ⟨fun b o' hb => by
    by_cases e : b = g
    · subst e; rw [hown.1] at hb; cases hb
    · rw [upd_ne _ _ _ e]; exact hb, fun _ _ _ h => h⟩
  have old : ∀ s k, (upd H r none) s = some k → H s = some k ∧ s ≠ r := by
    intro s k hs
    by_cases e : s = r
    · subst e; simp [upd_same] at hs
    · rw [upd_ne _ _ _ e] at hs; exact ⟨hs, e⟩
  refine ⟨x, ⟨h.os, h.tape, h.output, ?_, ?_, ?_, ?_, ?_, ?_⟩⟩
  · intro b hb
    by_cases e : b = g
    · subst e
      have := h.F0 b hb
      rw [hown.1] at this
      simp [hb] at this
    · rw [upd_ne _ _ _ e]; exact h.F0 b hb
  · intro b o' hb
    by_cases e : b = g
    · subst e; rw [upd_same] at hb; cases hb; exact hw
    · rw [upd_ne _ _ _ e] at hb; exact h.hF b o' hb
  · intro s k' hs
    obtain ⟨hs', hne⟩ := old s k' hs
    refine (h.blk s k' hs').mono x fun g' hg' => ⟨rfl, ?_⟩
    have e : g' ≠ g := fun e => by subst e; exact hne (h.disj s r k' k g' hs' hr hg' hg)
    rw [upd_ne _ _ _ e]; exact (h.owned hs' hg').1
  · intro s1 s2 k1 k2 g' hs1 hs2
    exact h.disj s1 s2 k1 k2 g' (old _ _ hs1).1 (old _ _ hs2).1
  · intro s k' hs
    exact h.gens s k' (old _ _ hs).1
  · obtain ⟨N, hN⟩ := h.fresh
    refine ⟨N, fun s hs => ⟨?_, (hN s hs).2⟩⟩
    by_cases e : s = r
    · subst e; simp [upd_same]
    · rw [upd_ne _ _ _ e]; exact (hN s hs).1

/-- A new block of the world that never changes. -/
theorem Rel.newF {w0 w : World} {F : Ft} {M : Mt} {H : Heap} (h : Rel w0 w F M H) (o : Obj) :
    Ext F (upd F w.heap.size (some o)) M M ∧ Rel w0 (w.alloc o) (upd F w.heap.size (some o)) M H := by
  have hnone := h.F_none (Nat.le_refl w.heap.size)
  have x : Ext F (upd F w.heap.size (some o)) M M := ⟨fun b o' hb => by
    have := h.F_lt hb
    rw [upd_ne _ _ _ (by omega)]; exact hb, fun _ _ _ h => h⟩
  have hh : ∀ i, i < w.heap.size → (w.alloc o).heap[i]? = w.heap[i]? := fun i hi => heap_alloc_old w o i hi
  refine ⟨x, ⟨h.os, h.tape, h.output, ?_, ?_, ?_, h.disj, h.gens, h.fresh⟩⟩
  · intro b hb
    have : b < w.heap.size := h.F_lt (o := w0.heap[b]) (by rw [h.F0 b hb]; simp [hb])
    rw [upd_ne _ _ _ (by omega)]; exact h.F0 b hb
  · intro b o' hb
    by_cases e : b = w.heap.size
    · subst e; rw [upd_same] at hb; cases hb; exact heap_alloc_new w o
    · rw [upd_ne _ _ _ e] at hb; rw [hh b (h.F_lt hb)]; exact h.hF b o' hb
  · intro s k hs
    refine (h.blk s k hs).mono x fun g hg => ?_
    have := h.owned hs hg
    refine ⟨hh g this.2, ?_⟩
    rw [upd_ne _ _ _ (by omega)]; exact this.1

/-- What is asked of the slots. -/
structure EnvR (F : Ft) (M : Mt) (nt : Nat) (env : Env) (a : Act) : Prop where
  size : a.tmps.size = nt
  defers : a.defers = []
  slot : ∀ i, VR F M (env i) (a.tmps.getD i undef)

theorem EnvR.mono {F F' : Ft} {M M' : Mt} {nt : Nat} {env : Env} {a : Act} (x : Ext F F' M M') (h : EnvR F M nt env a) : EnvR F' M' nt env a :=
  ⟨h.size, h.defers, fun i => (h.slot i).mono x⟩

theorem EnvR.put {F : Ft} {M : Mt} {nt : Nat} {env : Env} {a : Act} (h : EnvR F M nt env a) {d : Nat} (hd : d < nt) {av : AV} {cv : Value} (hv : VR F M av cv) :
    EnvR F M nt (upd env d av) (a.put (some d) cv) := by
  refine ⟨by simp [Act.put, h.size], h.defers, fun i => ?_⟩
  simp only [Act.put]
  by_cases e : i = d
  · subst e
    have : i < a.tmps.size := by rw [h.size]; exact hd
    rw [upd_same]
    simpa [Array.getD_eq_getD_getElem?, this] using hv
  · rw [upd_ne _ _ _ e]
    have := h.slot i
    have hne : ¬ d = i := fun x => e x.symm
    simpa [Array.getD_eq_getD_getElem?, Array.getElem?_setIfInBounds, hne] using this

theorem EnvR.putNone {F : Ft} {M : Mt} {nt : Nat} {env : Env} {a : Act} (h : EnvR F M nt env a) (cv : Value) : EnvR F M nt env (a.put none cv) := h

end Go.Am
