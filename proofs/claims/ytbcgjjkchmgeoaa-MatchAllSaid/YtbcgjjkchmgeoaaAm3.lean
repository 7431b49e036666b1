/- The abstract machine, part 3: what each operation does to slots and heap, and that it does so. -/
import Derived.Test.YtbcgjjkchmgeoaaAm2
namespace Go.Am
open Go

section defs
variable (P : Program) (w0 : World)

def slE (t : TypeId) : Option TypeId :=
  match P.underlying t with
  | some (.slice e) => some e
  | _ => none
def arE (t : TypeId) : Option (Nat × TypeId) :=
  match P.underlying t with
  | some (.array n e) => some (n, e)
  | _ => none
def sz (e : TypeId) : Nat := ((P.info? e).map (·.size)).getD 0
def byt (e : TypeId) : Nat := ((P.info? e).map (·.bytes)).getD 0
def zer (e : TypeId) : Option (List Value) := (P.info? e).bind fun i => i.zero.map fun z => z.cells.toList
/-- Neither a struct nor an array. -/
def scal (t : TypeId) : Bool :=
  match P.underlying t with
  | some (.struct _) => false
  | some (.array _ _) => false
  | some _ => true
  | none => false
def aggr (t : TypeId) : Bool :=
  match P.underlying t with
  | some (.struct _) => true
  | some (.array _ _) => true
  | _ => false
def fld (st : TypeId) (f : Nat) : Option (Nat × TypeId) :=
  match P.underlying st with
  | some (.struct fs) => (fs[f]?).map fun f => (f.offset, f.type)
  | _ => none
/-- Where parts of a struct or an array stand. -/
def places (t : TypeId) (i : Nat) : Option (Nat × Nat) :=
  match P.underlying t with
  | some (.struct fs) => (fs[i]?).map fun f => (f.offset, sz P f.type)
  | some (.array _ e) => some (i * sz P e, sz P e)
  | _ => none
def isInt (k : IntKind) (t : TypeId) : Bool :=
  match P.underlying t with
  | some (.int k') => k == k'
  | _ => false
def isIface (t : TypeId) : Bool :=
  match P.underlying t with
  | some (.interface _) => true
  | none => true
  | _ => false

/-- A result into its slot. -/
def putK (nt : Nat) (dst : Option Tmp) (v : AV) (env : Env) (K : Env → Prop) : Prop :=
  match dst with
  | some d => d < nt ∧ K (upd env d v)
  | none => K env

def setL : List AV → Nat → List AV → List AV
  | cells, _, [] => cells
  | cells, off, v :: vs => setL (cells.set off v) (off + 1) vs

/-- The cells of block r at count top. -/
def cellsAt (H : Heap) (r top : Nat) : Option (List AV) :=
  match H r with
  | some (.arr _ _ cells n) => if n = top then some cells else none
  | some (.box cells) => if top = 0 then some cells else none
  | _ => none

def setAt (H : Heap) (r : Nat) (cells : List AV) : Heap :=
  match H r with
  | some (.arr es e _ n) => upd H r (some (.arr es e cells n))
  | some (.box _) => upd H r (some (.box cells))
  | _ => H

def loadV (t : TypeId) (cells : List AV) (off : Nat) (K : AV → Prop) : Prop :=
  if scal P t then (match cells[off]? with | some v => K v | none => False)
  else aggr P t = true ∧ 0 < sz P t ∧ off + sz P t ≤ cells.length ∧ K (.agg ((cells.drop off).take (sz P t)))

def i64ok (n : Int) : Prop := -9223372036854775808 ≤ n ∧ n ≤ 9223372036854775807

def arith (k : IntKind) (n : Int) (K : AV → Prop) : Prop :=
  if k = .i64 then i64ok n ∧ K (.sc (.int .i64 n)) else K (.sc (.int k (k.wrap n)))

def binA (op : BinOp) (x y : AV) (K : AV → Prop) : Prop :=
  match x, y with
  | .sc (.int k a), .sc (.int k' b) =>
    match op with
    | .shl => 0 ≤ b ∧ arith k (a * 2 ^ (min b.toNat k.bits)) K
    | .shr => 0 ≤ b ∧ K (.sc (.int k (a.fdiv (2 ^ (min b.toNat k.bits)))))
    | _ => k = k' ∧
      match op with
      | .add => arith k (a + b) K
      | .sub => arith k (a - b) K
      | .mul => arith k (a * b) K
      | .quo => b ≠ 0 ∧ arith k (a.tdiv b) K
      | .rem => b ≠ 0 ∧ K (.sc (.int k (a.tmod b)))
      | .eql => K (B (decide (a = b)))
      | .neq => K (B (!decide (a = b)))
      | .lss => K (B (decide (a < b)))
      | .leq => K (B (decide (a ≤ b)))
      | .gtr => K (B (decide (b < a)))
      | .geq => K (B (decide (b ≤ a)))
      | .and => K (.sc (.int k (k.wrap ((BitVec.ofInt k.bits a) &&& (BitVec.ofInt k.bits b)).toNat)))
      | .or => K (.sc (.int k (k.wrap ((BitVec.ofInt k.bits a) ||| (BitVec.ofInt k.bits b)).toNat)))
      | .xor => K (.sc (.int k (k.wrap ((BitVec.ofInt k.bits a) ^^^ (BitVec.ofInt k.bits b)).toNat)))
      | _ => False
  | _, _ => False

def sliceK (H : Heap) (x : AV) (es : Nat) (lo hi : Nat) (clip full : Bool) (K : AV → Prop) : Prop :=
  match x with
  | .sl cells n | .csl cells n => lo ≤ hi ∧ hi ≤ n ∧ (full = true → cells.length = n * es ∧ hi = n) ∧
      (let cs := if full then cells.drop (lo * es) else (cells.drop (lo * es)).take ((hi - lo) * es)
       K (if clip then .csl cs (hi - lo) else .sl cs (hi - lo)))
  | .ref r off n top | .cref r off n top => lo ≤ hi ∧ hi ≤ n ∧
      match H r with
      | some (.arr es' _ _ n') => n' = top ∧ es' = es ∧ K (if clip then .cref r (off + lo) (hi - lo) top else .ref r (off + lo) (hi - lo) top)
      | _ => False
  | .sc (.slice none 0 0) => lo = 0 ∧ hi = 0 ∧ K (.sc (.slice none 0 0))
  | _ => False

def slLen : AV → Option Nat
  | .sl _ n => some n
  | .csl _ n => some n
  | .ref _ _ n _ => some n
  | .cref _ _ n _ => some n
  | .sc (.slice none 0 0) => some 0
  | _ => none

/-- The cells that a slice reads as. -/
def slCells (H : Heap) (es : Nat) : AV → Option (List AV)
  | .sl cells n => if n * es ≤ cells.length then some (cells.take (n * es)) else none
  | .csl cells n => if n * es ≤ cells.length then some (cells.take (n * es)) else none
  | .ref r off n top => match H r with
    | some (.arr es' _ cells n') => if n' = top ∧ es' = es ∧ (off + n) * es ≤ cells.length then some ((cells.drop (off * es)).take (n * es)) else none
    | _ => none
  | .cref r off n top => match H r with
    | some (.arr es' _ cells n') => if n' = top ∧ es' = es ∧ (off + n) * es ≤ cells.length then some ((cells.drop (off * es)).take (n * es)) else none
    | _ => none
  | .sc (.slice none 0 0) => some []
  | _ => none
end defs

section
variable {P : Program} {w0 : World} {nt : Nat}

theorem slE_eq {t e : TypeId} (h : slE P t = some e) : P.underlying t = some (.slice e) := by
  unfold slE at h
  split at h
  · cases h; assumption
  · cases h
theorem arE_eq {t e : TypeId} {n : Nat} (h : arE P t = some (n, e)) : P.underlying t = some (.array n e) := by
  unfold arE at h
  split at h
  · cases h; assumption
  · cases h
theorem sz_info {e : TypeId} (h : 0 < sz P e) : ∃ i, P.info? e = some i ∧ i.size = sz P e ∧ i.bytes = byt P e := by
  unfold sz byt at *
  cases hi : P.info? e with
  | none => simp [hi] at h
  | some i => exact ⟨i, rfl, by simp, by simp⟩
theorem zer_eq {e : TypeId} {zs : List Value} (h : zer P e = some zs) : ∃ i z, P.info? e = some i ∧ i.zero = some z ∧ z.cells.toList = zs := by
  unfold zer at h
  cases hi : P.info? e with
  | none => simp [hi] at h
  | some i =>
    cases hz : i.zero with
    | none => simp [hi, hz] at h
    | some z => simp [hi, hz] at h; exact ⟨i, z, rfl, hz, h⟩
theorem run_isAgg_scal {t : TypeId} (h : scal P t = true) (w : World) : (isAgg t).run P w = .ok false w := by
  unfold scal at h
  split at h <;> try (cases h; done)
  rename_i d hns hna hd
  have hu := run_underlying hd
  unfold isAgg
  simp only [Sem.run_bind, hu, Result.andThen_ok]
  cases d with
  | struct fs => exact absurd rfl (hns fs)
  | array n e => exact absurd rfl (hna n e)
  | _ => rfl
theorem run_isAgg_aggr {t : TypeId} (h : aggr P t = true) (w : World) : (isAgg t).run P w = .ok true w := by
  unfold aggr at h
  split at h <;> try (cases h; done)
  · rename_i hd; simp [isAgg, run_underlying hd]
  · rename_i hd; simp [isAgg, run_underlying hd]

theorem addr_add (g o n : Nat) : (⟨g, o, none⟩ : Addr).add n = ⟨g, o + n, none⟩ := by
  unfold Addr.add; split <;> simp_all

/-- What an operation must do. -/
def OpOK (P : Program) (w0 : World) (nt : Nat) (o : Oper) (env : Env) (H : Heap) (K : Env → Heap → Prop) : Prop :=
  ∀ w F M a, Rel w0 w F M H → EnvR F M nt env a → ∀ (next : Act → World → Prop) (Q : Exit → Act → World → Prop),
    (∀ env' H' F' M' a' w', Ext F F' M M' → Rel w0 w' F' M' H' → EnvR F' M' nt env' a' → K env' H' → next a' w') → o.wp P a w next Q

theorem op_value {o : Oper} {a : Act} {w w' : World} {cv : Value} {next : Act → World → Prop} {Q : Exit → Act → World → Prop}
    (hrun : (execOp a.eval o).run P w = .ok (.value cv) w') (h : next (a.put o.dst cv) w') : o.wp P a w next Q := by
  unfold Oper.wp; rw [hrun]; exact h
theorem op_skip {o : Oper} {a : Act} {w w' : World} {next : Act → World → Prop} {Q : Exit → Act → World → Prop}
    (hrun : (execOp a.eval o).run P w = .ok .skip w') (h : next (a.put o.dst undef) w') : o.wp P a w next Q := by
  unfold Oper.wp; rw [hrun]; exact h

theorem put_ok {F : Ft} {M : Mt} {env : Env} {a : Act} {dst : Option Tmp} {v : AV} {cv : Value} {K : Env → Prop} (er : EnvR F M nt env a) (hv : VR F M v cv)
    (h : putK nt dst v env K) : ∃ env', EnvR F M nt env' (a.put dst cv) ∧ K env' := by
  cases dst with
  | none => exact ⟨env, er, h⟩
  | some d => exact ⟨_, er.put h.1 hv, h.2⟩

/-- An operation that only reckons: its value, the world as it is. -/
theorem op_pure {o : Oper} {env : Env} {H : Heap} {K : Env → Heap → Prop} (v : AV)
    (hrun : ∀ w F M a, Rel w0 w F M H → EnvR F M nt env a → ∃ cv, (execOp a.eval o).run P w = .ok (.value cv) w ∧ VR F M v cv)
    (h : putK nt o.dst v env (fun env' => K env' H)) : OpOK P w0 nt o env H K := by
  intro w F M a r er next Q hn
  obtain ⟨cv, hr, hv⟩ := hrun w F M a r er
  obtain ⟨env', er', k⟩ := put_ok er hv h
  exact op_value hr (hn env' H F M _ _ (Ext.refl _ _) r er' k)

/-- What an operation that makes or writes memory must do. -/
theorem op_heap {o : Oper} {env : Env} {H : Heap} {K : Env → Heap → Prop}
    (hrun : ∀ w F M a, Rel w0 w F M H → EnvR F M nt env a → ∃ cv w' v H' F' M', (execOp a.eval o).run P w = .ok (.value cv) w' ∧ Ext F F' M M' ∧ Rel w0 w' F' M' H' ∧ VR F' M' v cv ∧
      putK nt o.dst v env (fun env' => K env' H')) : OpOK P w0 nt o env H K := by
  intro w F M a r er next Q hn
  obtain ⟨cv, w', v, H', F', M', hr, x, r', hv, h⟩ := hrun w F M a r er
  obtain ⟨env', er', k⟩ := put_ok (er.mono x) hv h
  exact op_value hr (hn env' H' F' M' _ _ x r' er' k)

theorem op_heap_skip {o : Oper} {env : Env} {H : Heap} {K : Env → Heap → Prop}
    (hrun : ∀ w F M a, Rel w0 w F M H → EnvR F M nt env a → ∃ w' H' F' M', (execOp a.eval o).run P w = .ok .skip w' ∧ Ext F F' M M' ∧ Rel w0 w' F' M' H' ∧
      putK nt o.dst (.sc undef) env (fun env' => K env' H')) : OpOK P w0 nt o env H K := by
  intro w F M a r er next Q hn
  obtain ⟨w', H', F', M', hr, x, r', h⟩ := hrun w F M a r er
  obtain ⟨env', er', k⟩ := put_ok (er.mono x) (.sc undef) h
  exact op_skip hr (hn env' H' F' M' _ _ x r' er' k)

theorem setL_length (vs : List AV) : ∀ (cells : List AV) (off : Nat), (setL cells off vs).length = cells.length := by
  induction vs with
  | nil => intros; rfl
  | cons v vs ih => intro cells off; simp [setL, ih]

theorem setL_get (vs : List AV) : ∀ (cells : List AV) (off : Nat), off + vs.length ≤ cells.length → ∀ (i : Nat),
    (setL cells off vs)[i]? = if off ≤ i ∧ i < off + vs.length then vs[i - off]? else cells[i]? := by
  induction vs with
  | nil => intro cells off _ i; simp [setL]; intro h1 h2; omega
  | cons v vs ih =>
    intro cells off h i
    simp only [List.length_cons] at h
    rw [setL, ih _ _ (by simp; omega)]
    by_cases h1 : i = off
    · subst h1
      have : i < cells.length := by omega
      have hn : ¬ (i + 1 ≤ i ∧ i < i + 1 + vs.length) := by omega
      have hp : i ≤ i ∧ i < i + (v :: vs).length := by simp
      rw [if_neg hn, if_pos hp]
      simp [this]
    · by_cases h2 : off + 1 ≤ i ∧ i < off + 1 + vs.length
      · have h3 : off ≤ i ∧ i < off + (v :: vs).length := by simp; omega
        rw [if_pos h2, if_pos h3]
        obtain ⟨j, hj⟩ : ∃ j, i - off = j + 1 := ⟨i - off - 1, by omega⟩
        have : i - (off + 1) = j := by omega
        rw [hj, this]; simp
      · have h3 : ¬ (off ≤ i ∧ i < off + (v :: vs).length) := by simp; omega
        rw [if_neg h2, if_neg h3, List.getElem?_set]
        rw [if_neg (fun e => h1 e.symm)]

theorem VRC.setL {F : Ft} {M : Mt} {cells vs : List AV} {cs : Array Value} {cvs : List Value} {o off : Nat} (h : VRC F M cells cs o) (hv : VRL F M vs cvs) (h1 : ∀ (i : Nat) (x : AV), vs[i]? = some x → x.one = true)
    (hl : off + vs.length ≤ cells.length) (hs : o + cells.length ≤ cs.size) :
    VRC F M (setL cells off vs) (cs.toList.take (o + off) ++ cvs ++ cs.toList.drop (o + off + cvs.length)).toArray o := by
  intro i av hi
  rw [setL_get _ _ _ hl] at hi
  have hlen := hv.1
  have htk : (cs.toList.take (o + off)).length = o + off := by simp; omega
  by_cases hc : off ≤ i ∧ i < off + vs.length
  · rw [if_pos hc] at hi
    obtain ⟨cv, hcv, hvr⟩ := hv.get hi
    refine ⟨h1 _ _ hi, cv, ?_, hvr⟩
    simp only [List.getElem?_toArray, List.append_assoc]
    rw [List.getElem?_append_right (by omega), htk, List.getElem?_append_left (by omega)]
    rw [← hcv]; congr 1; omega
  · rw [if_neg hc] at hi
    obtain ⟨h2, cv, hcv, hvr⟩ := h i av hi
    refine ⟨h2, cv, ?_, hvr⟩
    have hil : i < cells.length := (List.getElem?_eq_some_iff.1 hi).1
    simp only [List.getElem?_toArray, List.append_assoc]
    rcases Nat.lt_or_ge i off with hlt | hge
    · rw [List.getElem?_append_left (by omega), List.getElem?_take, if_pos (by omega)]; simpa using hcv
    · have : off + vs.length ≤ i := by omega
      rw [List.getElem?_append_right (by omega), htk, List.getElem?_append_right (by omega), List.getElem?_drop, ← hcv]
      simp only [Array.getElem?_toList]; congr 1; omega

/-- Cells of a row, read. -/
theorem cell_of {w : World} {g i : Nat} {cs : Array Value} {e : TypeId} {fz : Nat × Nat} {cv : Value} (hg : w.heap[g]? = some (.cells cs e fz)) (h : cs[i]? = some cv) : w.cell? ⟨g, i, none⟩ = some cv := by
  rw [cell_of_row w g i cs e fz hg, h]

theorem run_loadVar_scal {t : TypeId} (h : scal P t = true) {w : World} {g i : Nat} {cs : Array Value} {e : TypeId} {fz : Nat × Nat} {cv : Value} (hg : w.heap[g]? = some (.cells cs e fz)) (hc : cs[i]? = some cv) :
    (loadVar t ⟨g, i, none⟩).run P w = .ok cv w := by
  unfold loadVar
  simp only [Sem.run_bind, run_isAgg_scal h, Result.andThen_ok, Bool.false_eq_true, if_false, run_load, cell_of hg hc]

theorem run_loadVar_aggr {t : TypeId} (h : aggr P t = true) (hz : 0 < sz P t) {w : World} {g i : Nat} {cs : Array Value} {e : TypeId} {fz : Nat × Nat} (hg : w.heap[g]? = some (.cells cs e fz)) (hl : i + sz P t ≤ cs.size) :
    (loadVar t ⟨g, i, none⟩).run P w = .ok (.agg (cs.extract i (i + sz P t))) w := by
  obtain ⟨inf, hi, hs, _⟩ := sz_info hz
  have hl' : (loadCells ⟨g, i, none⟩ (sz P t)).run P w = .ok (cs.extract i (i + sz P t)) w := by
    have hcell : ∀ j, j < sz P t → w.cell? ((⟨g, i, none⟩ : Addr).add j) = some (cs.getD (i + j) undef) := by
      intro j hj
      rw [addr_add]
      have : i + j < cs.size := by omega
      exact cell_of hg (by simp [this])
    rw [run_loadCells (P := P) w ⟨g, i, none⟩ (sz P t) (fun j => cs.getD (i + j) undef) hcell]
    congr 1
    apply Array.ext
    · simp; omega
    · intro j h1 h2
      simp at h1 h2
      have : i + j < cs.size := by omega
      simp [this]
  have hso : (sizeOf t).run P w = .ok (sz P t) w := by simp [sizeOf, typeInfo, hi, hs]
  unfold loadVar
  simp only [Sem.run_bind, run_isAgg_aggr h, Result.andThen_ok, if_true, hso, hl', Sem.run_pure]

/-- What is read at cell off of cells that stand in a row from o on. -/
theorem load_cells {F : Ft} {M : Mt} {w : World} {t : TypeId} {cells : List AV} {off g o : Nat} {cs : Array Value} {e : TypeId} {fz : Nat × Nat} {K : AV → Prop}
    (hg : w.heap[g]? = some (.cells cs e fz)) (hc : VRC F M cells cs o) (h : loadV P t cells off K) :
    ∃ v cv, (loadVar t ⟨g, o + off, none⟩).run P w = .ok cv w ∧ VR F M v cv ∧ K v := by
  unfold loadV at h
  split at h
  · rename_i hs
    split at h
    · rename_i v hv
      obtain ⟨_, cv, hcv, hvr⟩ := hc off v hv
      exact ⟨v, cv, run_loadVar_scal hs hg hcv, hvr, h⟩
    · exact h.elim
  · obtain ⟨ha, hz, hl, k⟩ := h
    have hsz : o + off + sz P t ≤ cs.size := by
      obtain ⟨_, cv, hcv, _⟩ := hc (off + sz P t - 1) cells[off + sz P t - 1] (by simp)
      have := (Array.getElem?_eq_some_iff.1 hcv).1
      omega
    refine ⟨_, _, run_loadVar_aggr ha hz hg hsz, .agg (fun i => (cs[o + off + i]?).getD undef) (by simp; omega) ?_ ?_ ?_, k⟩
    · intro i av hi
      rw [List.getElem?_take] at hi
      split at hi
      · rename_i hlt
        have h1 : o + off + i < cs.size := by omega
        rw [Array.getElem?_extract]
        rw [if_pos (by omega)]
        simp [h1]
      · cases hi
    · intro i av hi
      rw [List.getElem?_take] at hi
      split at hi
      · rw [List.getElem?_drop] at hi
        obtain ⟨_, cv, hcv, hvr⟩ := hc _ _ hi
        have e1 : o + off + i = o + (off + i) := by omega
        simpa [e1, hcv] using hvr
      · cases hi
    · intro i av hi
      rw [List.getElem?_take] at hi
      split at hi
      · rw [List.getElem?_drop] at hi
        exact (hc _ _ hi).1
      · cases hi
end
end Go.Am
