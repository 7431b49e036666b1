/- The abstract machine, part 4: loads, stores, new blocks. -/
import Derived.Test.YtbcgjjkchmgeoaaAm3
namespace Go.Am
open Go

section
variable {P : Program} {w0 : World} {nt : Nat}

theorem cellsAt_inv {H : Heap} {r top : Nat} {cells : List AV} (h : cellsAt H r top = some cells) :
    ∃ k, H r = some k ∧ k.gen = top ∧ ((∃ es e, k = .arr es e cells top) ∨ k = .box cells) := by
  unfold cellsAt at h
  split at h
  · rename_i es e c n hk
    split at h
    · rename_i e1; cases h; subst e1; exact ⟨_, hk, rfl, .inl ⟨es, e, rfl⟩⟩
    · cases h
  · rename_i c hk
    split at h
    · rename_i e1; cases h; subst e1; exact ⟨_, hk, rfl, .inr rfl⟩
    · cases h
  · cases h

/-- The row that a block's cells stand in. -/
theorem Rel.row {w : World} {F : Ft} {M : Mt} {H : Heap} (h : Rel w0 w F M H) {r top : Nat} {cells : List AV} (hc : cellsAt H r top = some cells) (hp : 0 < cells.length) :
    ∃ k g o cs e cap es, H r = some k ∧ k.gen = top ∧ Owns M r k g ∧ M r top = some (some ⟨g, o, none⟩, cap, es) ∧ w.heap[g]? = some (.cells cs e (0, 0)) ∧
      VRC F M cells cs o ∧ o + cells.length ≤ cs.size ∧ ((∃ es e, k = .arr es e cells top) ∨ k = .box cells) := by
  obtain ⟨k, hk, hgen, hor⟩ := cellsAt_inv hc
  have hb := h.blk r k hk
  rcases hor with ⟨es, e, rfl⟩ | rfl
  · obtain ⟨h1, h2, a, cap, h3, h4, h5, h6⟩ := hb
    have hn : 0 < top := by
      rcases Nat.eq_zero_or_pos top with e1 | e1
      · subst e1; rw [Nat.zero_mul] at h1; omega
      · exact e1
    rcases h6 with h6 | ⟨g, o, cs, rfl, h7, h8, h9, h10⟩
    · omega
    · refine ⟨_, g, o, cs, e, cap, es, hk, rfl, ⟨o, cap, es, h3, fun _ => by omega⟩, h3, h8, h10, ?_, .inl ⟨es, e, rfl⟩⟩
      have : top * es ≤ cap * es := Nat.mul_le_mul_right _ h4
      omega
  · obtain ⟨g, cs, e, h1, h2, h3, h4, h5⟩ := hb
    simp only [Blk.gen] at hgen
    subst hgen
    exact ⟨_, g, 0, cs, e, 1, 1, hk, rfl, ⟨0, 1, 1, h1, fun h => by simp [Blk.isArr] at h⟩, h1, h3, h5, by omega, .inr rfl⟩

theorem VR.ptr_inv {F : Ft} {M : Mt} {r top off : Nat} {cv : Value} (h : VR F M (.ptr r top off) cv) : ∃ g o cap es, M r top = some (some ⟨g, o, none⟩, cap, es) ∧ cv = .pointer (some ⟨g, o + off, none⟩) := by
  cases h with
  | ptr hM => exact ⟨_, _, _, _, hM, rfl⟩

theorem VR.eptr_inv {F : Ft} {M : Mt} {cells : List AV} {off : Nat} {cv : Value} (h : VR F M (.eptr cells off) cv) :
    ∃ b o cs e fz, F b = some (.cells cs e fz) ∧ VRC F M cells cs o ∧ cv = .pointer (some ⟨b, o + off, none⟩) := by
  cases h with
  | eptr f hF h1 h2 ho => exact ⟨_, _, _, _, _, hF, VRC.of h1 h2 ho, rfl⟩

/-- What stands at an address. -/
def loadK (P : Program) (H : Heap) (t : TypeId) (a : AV) (K : AV → Prop) : Prop :=
  match a with
  | .eptr cells off => loadV P t cells off K
  | .ptr r top off => match cellsAt H r top with
    | some cells => loadV P t cells off K
    | none => False
  | _ => False

theorem loadV_pos {t : TypeId} {cells : List AV} {off : Nat} {K : AV → Prop} (h : loadV P t cells off K) : 0 < cells.length := by
  unfold loadV at h
  split at h
  · split at h
    · rename_i v hv
      have := (List.getElem?_eq_some_iff.1 hv).1
      omega
    · exact h.elim
  · obtain ⟨_, h1, h2, _⟩ := h; omega

theorem ok_load {o : Oper} {env : Env} {H : Heap} {K : Env → Heap → Prop} {t : TypeId} {x : Operand} (ho : o.op = .load t x)
    (h : loadK P H t (evO env x) (fun v => putK nt o.dst v env (fun env' => K env' H))) : OpOK P w0 nt o env H K := by
  refine op_heap fun w F M a r er => ?_
  have hx := er.ev x
  revert h hx
  generalize evO env x = av
  intro h hx
  unfold loadK at h
  split at h
  · rename_i cells off
    obtain ⟨b, oo, cs, e, fz, hF, hC, hcv⟩ := hx.eptr_inv
    obtain ⟨v, cv, hr, hv, k⟩ := load_cells (r.hF _ _ hF) hC h
    exact ⟨cv, w, v, H, F, M, by simp [execOp, ho, hcv, Instr.loadAt, Instr.sureAddr, hr], Ext.refl _ _, r, hv, k⟩
  · rename_i rr top off
    split at h
    · rename_i cells hcells
      obtain ⟨g, oo, cap, es, hM, hcv⟩ := hx.ptr_inv
      obtain ⟨k', g', oo', cs, e, cap', es', hk, hgen, how, hM', hg, hC, hl, hor⟩ := r.row hcells (loadV_pos h)
      rw [hM] at hM'; cases hM'
      obtain ⟨v, cv, hr, hv, k⟩ := load_cells hg hC h
      exact ⟨cv, w, v, H, F, M, by simp [execOp, ho, hcv, Instr.loadAt, Instr.sureAddr, hr], Ext.refl _ _, r, hv, k⟩
    · exact h.elim
  · exact h.elim

def storeK (P : Program) (H : Heap) (t : TypeId) (a x : AV) (K : Heap → Prop) : Prop :=
  match a with
  | .ptr r top off => match cellsAt H r top with
    | some cells => 0 < sz P t ∧ x.cells.length = sz P t ∧ x.cellsOne ∧ off + x.cells.length ≤ cells.length ∧ K (setAt H r (setL cells off x.cells))
    | none => False
  | _ => False

theorem setAt_eq {H : Heap} {r top : Nat} {cells cells' : List AV} {k : Blk} (hk : H r = some k) (hor : (∃ es e, k = .arr es e cells top) ∨ k = .box cells) :
    ∃ k', setAt H r cells' = upd H r (some k') ∧ k'.gen = k.gen ∧ k'.isArr = k.isArr ∧ ((∃ es e, k = .arr es e cells top ∧ k' = .arr es e cells' top) ∨ (k = .box cells ∧ k' = .box cells')) := by
  rcases hor with ⟨es, e, rfl⟩ | rfl
  · exact ⟨.arr es e cells' top, by simp [setAt, hk], rfl, rfl, .inl ⟨es, e, rfl, rfl⟩⟩
  · exact ⟨.box cells', by simp [setAt, hk], rfl, rfl, .inr ⟨rfl, rfl⟩⟩

theorem upd_none_upd {α : Type} (H : Nat → Option α) (r : Nat) (k : Option α) : upd (upd H r none) r k = upd H r k := upd_upd H r none k

/-- A row's cells are written. -/
theorem Rel.write {w : World} {F : Ft} {M : Mt} {H : Heap} (h : Rel w0 w F M H) {r top : Nat} {cells cells' : List AV} {k : Blk} {g o cap es : Nat} {cs cs' : Array Value} {e : TypeId}
    (hk : H r = some k) (hgen : k.gen = top) (how : Owns M r k g) (hM : M r top = some (some ⟨g, o, none⟩, cap, es)) (hg : w.heap[g]? = some (.cells cs e (0, 0)))
    (hor : (∃ es e, k = .arr es e cells top) ∨ k = .box cells) (hlen : cells'.length = cells.length) (hsz : cs'.size = cs.size) (hC : VRC F M cells' cs' o) :
    Rel w0 (w.setRow g cs') F M (setAt H r cells') := by
  obtain ⟨k', he, hg', ha', hkk⟩ := setAt_eq (cells' := cells') hk hor
  have hheap := setRow_heap w g cs cs' e (0, 0) hg
  rw [he, ← upd_none_upd]
  refine (h.step (w' := w.setRow g cs') (M' := M) r r k' rfl rfl rfl ?_ (fun s t => .inl rfl) (fun x hx => hx) (.inl rfl) ?_ ?_ ?_).2
  · intro b hb hno
    refine setRow_other w g b cs' fun e => ?_
    subst e; exact hno k hk how
  · have hb := h.blk r k hk
    rcases hkk with ⟨es', e', rfl, rfl⟩ | ⟨rfl, rfl⟩
    · obtain ⟨h1, h2, a, cap', h3, h4, h5, h6⟩ := hb
      simp only [Blk.gen] at hgen
      rw [hM] at h3; cases h3
      refine ⟨hlen.trans h1, h2, _, _, hM, h4, h5, ?_⟩
      rcases h6 with h6 | ⟨g', o', cs0, e0, h7, h8, h9, h10⟩
      · exact .inl h6
      · cases e0
        rw [hg] at h8; cases h8
        exact .inr ⟨g, o, cs', rfl, h7, hheap, by rw [hsz]; exact h9, hC⟩
    · obtain ⟨g', cs0, e', h1, h2, h3, h4, h5⟩ := hb
      simp only [Blk.gen] at hgen
      subst hgen
      rw [hM] at h1; cases h1
      rw [hg] at h3; cases h3
      exact ⟨g, cs', e, hM, h2, hheap, by rw [hsz, hlen]; exact h4, hC⟩
  · intro g' ⟨o', cap', es', hm, hc⟩
    rw [hg'] at hm; rw [ha'] at hc
    exact .inr ⟨k, hk, o', cap', es', hm, hc⟩
  · intro t ht
    rw [hg'] at ht
    exact h.gens r k hk t ht

theorem run_sizeOf {t : TypeId} (h : 0 < sz P t) (w : World) : (sizeOf t).run P w = .ok (sz P t) w := by
  obtain ⟨inf, hi, hs, _⟩ := sz_info h
  simp [sizeOf, typeInfo, hi, hs]

theorem one_all {F : Ft} {M : Mt} {vs : List AV} {cvs : List Value} (hv : VRL F M vs cvs) (h1 : ∀ (i : Nat) (x : AV), vs[i]? = some x → x.one = true) : ∀ v ∈ cvs, v.oneCell' = true := by
  intro v hv'
  obtain ⟨i, hi, he⟩ := List.mem_iff_getElem.1 hv'
  have hlt : i < vs.length := by rw [hv.1]; exact hi
  have hvr := hv.2 i vs[i] v (by simp [hlt]) (by simp [hi, he])
  rw [← hvr.one]
  exact h1 i vs[i] (by simp [hlt])

theorem VR.cellsVRL {F : Ft} {M : Mt} {av : AV} {cv : Value} (h : VR F M av cv) (hc : av.cellsOne) : VRL F M av.cells cv.cells.toList := by
  apply h.cellsL
  intro v e
  subst e
  exact hc

theorem ok_store {o : Oper} {env : Env} {H : Heap} {K : Env → Heap → Prop} {t : TypeId} {x y : Operand} (ho : o.op = .store t x y)
    (h : storeK P H t (evO env x) (evO env y) (fun H' => putK nt o.dst (.sc undef) env (fun env' => K env' H'))) : OpOK P w0 nt o env H K := by
  refine op_heap_skip fun w F M a r er => ?_
  have hx := er.ev x
  have hy := er.ev y
  revert h hx hy
  generalize evO env x = av
  generalize evO env y = bv
  intro h hx hy
  unfold storeK at h
  split at h
  · rename_i rr top off
    split at h
    · rename_i cells hcells
      obtain ⟨hz, hlen, hone, hfit, k⟩ := h
      obtain ⟨g, oo, cap, es, hM, hcv⟩ := hx.ptr_inv
      obtain ⟨k', g', oo', cs, e, cap', es', hk, hgen, how, hM', hg, hC, hl, hor⟩ := r.row hcells (by omega)
      rw [hM] at hM'; cases hM'
      have hvl := hy.cellsVRL hone
      have hone' := hy.cellsOne' hone
      have hcl : (a.eval y).cells.toList.length = bv.cells.length := hvl.1.symm
      have hcl' : (a.eval y).cells.size = bv.cells.length := by simpa using hcl
      have hrun := run_storeCells_at P g (oo + off) e (a.eval y).cells.toList 0 cs w hg (by rw [hcl]; omega) (one_all hvl hone')
      have hrel := r.write (cells' := setL cells off bv.cells) (cs' := (cs.toList.take (oo + off) ++ (a.eval y).cells.toList ++ cs.toList.drop (oo + off + (a.eval y).cells.toList.length)).toArray)
        hk hgen how hM hg hor (setL_length _ _ _) (by simp; omega) (VRC.setL hC hvl hone' hfit (by omega))
      refine ⟨_, _, F, M, ?_, Ext.refl _ _, hrel, k⟩
      have hne : ¬ ((a.eval y).cells.size ≠ sz P t) := by rw [hcl', hlen]; simp
      simp only [execOp, ho, hcv, Instr.storeAt, Instr.sureAddr, storeVar, Sem.run_bind, Sem.run_pure, Result.andThen_ok, run_sizeOf hz, hne, if_false, Nat.add_zero] at hrun ⊢
      rw [hrun]
      rfl
    · exact h.elim
  · exact h.elim

/-- A new variable. -/
theorem Rel.newBox {w : World} {F : Ft} {M : Mt} {H : Heap} (h : Rel w0 w F M H) (cells : List AV) (cs : Array Value) (e : TypeId) (hC : VRC F M cells cs 0) (hs : cs.size = cells.length) :
    ∃ r M', H r = none ∧ Ext F F M M' ∧ Rel w0 (w.alloc (.cells cs e)) F M' (upd H r (some (.box cells))) ∧ M' r 0 = some (some ⟨w.heap.size, 0, none⟩, 1, 1) := by
  obtain ⟨N, hN⟩ := h.fresh
  have hH := (hN N (Nat.le_refl _)).1
  have hMN := (hN N (Nat.le_refl _)).2
  let M' : Mt := fun s t => if s = N ∧ t = 0 then some (some ⟨w.heap.size, 0, none⟩, 1, 1) else M s t
  have hM' : M' N 0 = some (some ⟨w.heap.size, 0, none⟩, 1, 1) := by simp [M']
  have hx : Ext F F M M' := ⟨fun _ _ h => h, fun s t y hy => by
    simp only [M']
    split
    · rename_i e; rw [e.1, hMN] at hy; cases hy
    · exact hy⟩
  have hnew : (w.alloc (.cells cs e)).heap[w.heap.size]? = some (.cells cs e) := heap_alloc_new w _
  have st := h.step (w' := w.alloc (.cells cs e)) (M' := M') N N (.box cells) rfl rfl rfl
    (fun b hb _ => heap_alloc_old w _ b hb) (fun s t => by
      simp only [M', Blk.gen]
      by_cases e : s = N ∧ t = 0
      · exact .inr e
      · simp [e]) (fun x hx' => by simp only [Blk.gen] at hx'; rw [hMN] at hx'; cases hx') (.inl rfl)
    ⟨w.heap.size, cs, e, hM', h.F_none (Nat.le_refl _), hnew, hs, hC.mono hx⟩
    (fun g ⟨o, cap, es, hm, _⟩ => by simp only [Blk.gen] at hm; rw [hM'] at hm; cases hm; exact .inl (Nat.le_refl _))
    (fun t _ => hMN t)
  rw [upd_none_upd] at st
  exact ⟨N, M', hH, st.1, st.2, hM'⟩

def zcells (zs : List Value) : List AV := zs.map .sc

theorem VRC_zcells (F : Ft) (M : Mt) {zs : List Value} (h : zs.all Value.oneCell' = true) : VRC F M (zcells zs) zs.toArray 0 := by
  intro i av hi
  simp only [zcells, List.getElem?_map] at hi
  cases hz : zs[i]? with
  | none => simp [hz] at hi
  | some z =>
    simp [hz] at hi
    subst hi
    refine ⟨?_, z, by simpa using hz, .sc z⟩
    have : z ∈ zs := List.mem_of_getElem? hz
    exact List.all_eq_true.1 h z this

def allocK (P : Program) (H : Heap) (t : TypeId) (K : AV → Heap → Prop) : Prop :=
  match zer P t with
  | some zs => zs.all Value.oneCell' = true ∧ ∀ r, H r = none → K (.ptr r 0 0) (upd H r (some (.box (zcells zs))))
  | none => False

theorem ok_alloc {o : Oper} {env : Env} {H : Heap} {K : Env → Heap → Prop} {t : TypeId} (ho : o.op = .alloc t)
    (h : allocK P H t (fun v H' => putK nt o.dst v env (fun env' => K env' H'))) : OpOK P w0 nt o env H K := by
  refine op_heap fun w F M a r er => ?_
  unfold allocK at h
  split at h
  · rename_i zs hz
    obtain ⟨i, z, hi, hzz, hcs⟩ := zer_eq hz
    obtain ⟨hone, k⟩ := h
    obtain ⟨rr, M', hr, hx, hrel, hM'⟩ := r.newBox (zcells zs) zs.toArray t (VRC_zcells F M hone) (by simp [zcells])
    refine ⟨_, _, .ptr rr 0 0, _, F, M', ?_, hx, hrel, .ptr hM', k rr hr⟩
    have hzc : z.cells = zs.toArray := by rw [← hcs]
    simp [execOp, ho, Instr.alloc, zeroValue, typeInfo, hi, hzz, newVar, newRow, hzc]
  · exact h.elim

def boxK (H : Heap) (x : AV) (K : AV → Heap → Prop) : Prop :=
  x.cellsOne ∧ ∀ r, H r = none → K (.ptr r 0 0) (upd H r (some (.box x.cells)))

theorem ok_box {o : Oper} {env : Env} {H : Heap} {K : Env → Heap → Prop} {t : TypeId} {x : Operand} (ho : o.op = .box t x)
    (h : boxK H (evO env x) (fun v H' => putK nt o.dst v env (fun env' => K env' H'))) : OpOK P w0 nt o env H K := by
  refine op_heap fun w F M a r er => ?_
  have hx := er.ev x
  obtain ⟨hone, k⟩ := h
  obtain ⟨rr, M', hr, hxx, hrel, hM'⟩ := r.newBox (evO env x).cells (a.eval x).cells t (hx.cellsC hone) (hx.cellsSize hone)
  exact ⟨_, _, .ptr rr 0 0, _, F, M', by simp [execOp, ho, Instr.box, newVar, newRow], hxx, hrel, .ptr hM', k rr hr⟩

theorem ok_move {o : Oper} {env : Env} {H : Heap} {K : Env → Heap → Prop} {x : Operand} (ho : o.op = .move x ∨ o.op = .assign x)
    (h : putK nt o.dst (evO env x) env (fun env' => K env' H)) : OpOK P w0 nt o env H K :=
  op_pure (evO env x) (fun w F M a r er => ⟨a.eval x, by rcases ho with ho | ho <;> simp [execOp, ho], er.ev x⟩) h

theorem ok_pick {o : Oper} {env : Env} {H : Heap} {K : Env → Heap → Prop} {c x y : Operand} {t : Bool} (ho : o.op = .pick c x y) (hc : evO env c = B t)
    (h : putK nt o.dst (if t then evO env x else evO env y) env (fun env' => K env' H)) : OpOK P w0 nt o env H K :=
  op_pure _ (fun w F M a r er => ⟨if t then a.eval x else a.eval y, by
    have e : a.eval c = .bool t := by have := er.ev c; rw [hc] at this; exact this.sc_inv
    simp [execOp, ho, e, asBool], by cases t <;> first | exact er.ev x | exact er.ev y⟩) h

theorem ok_nilCheck {o : Oper} {env : Env} {H : Heap} {K : Env → Heap → Prop} {x : Operand} (ho : o.op = .nilCheck x)
    (hp : (∃ r t f, evO env x = .ptr r t f) ∨ (∃ c f, evO env x = .eptr c f) ∨ (∃ f c d, evO env x = .clo f c d))
    (h : putK nt o.dst (evO env x) env (fun env' => K env' H)) : OpOK P w0 nt o env H K := by
  refine op_pure _ (fun w F M a r er => ⟨a.eval x, ?_, er.ev x⟩) h
  have hx := er.ev x
  rcases hp with ⟨r, t, f, e⟩ | ⟨c, f, e⟩ | ⟨f, c, d, e⟩ <;> rw [e] at hx <;> cases hv : a.eval x <;> rw [hv] at hx <;> cases hx <;> simp [execOp, ho, hv]
end
end Go.Am
