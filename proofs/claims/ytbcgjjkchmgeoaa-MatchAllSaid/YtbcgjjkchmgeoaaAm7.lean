/- The abstract machine, part 7: slices that are made, appended to, copied; calls. -/
import Derived.Test.YtbcgjjkchmgeoaaAm6
namespace Go.Am
open Go

section
variable {P : Program} {w0 : World} {nt : Nat}

/-- Zero cells, n of them, of elements of which each has zs. -/
def zrep (zs : List Value) (n : Nat) : List AV := (List.range n).map fun i => .sc (zs.getD (i % zs.length) undef)

theorem zrep_length (zs : List Value) (n : Nat) : (zrep zs n).length = n := by simp [zrep]

theorem zrep_one (z : Value) (n : Nat) : zrep [z] n = List.replicate n (.sc z) := by
  unfold zrep
  apply List.ext_getElem?
  intro i
  simp only [List.getElem?_map, List.length_singleton, Nat.mod_one, List.getD_cons_zero, List.getElem?_replicate]
  by_cases h : i < n
  · simp [h]
  · simp [h]

theorem VRC_zrep (F : Ft) (M : Mt) {zs : List Value} (h : zs.all Value.oneCell' = true) (n : Nat) (hz : zs ≠ [] ∨ n = 0) {z : Array Value} (e : z.toList = zs) :
    VRC F M (zrep zs n) (madeCells z n) 0 := by
  intro i av hi
  simp only [zrep, List.getElem?_map] at hi
  by_cases hlt : i < n
  · simp only [List.getElem?_range hlt, Option.map_some, Option.some.injEq] at hi
    subst hi
    have hne : zs ≠ [] := by rcases hz with h | h; exact h; omega
    have hpos : 0 < zs.length := List.length_pos_iff.2 hne
    have hm : i % zs.length < zs.length := Nat.mod_lt _ hpos
    have hsz : z.size = zs.length := by rw [← e]; simp
    have hgd : zs.getD (i % zs.length) undef = zs[i % zs.length] := by simp [List.getD_eq_getElem?_getD, hm]
    rw [hgd]
    refine ⟨?_, zs[i % zs.length], ?_, .sc _⟩
    · have : zs[i % zs.length] ∈ zs := List.getElem_mem hm
      exact List.all_eq_true.1 h _ this
    · have hm' : i % z.size < z.size := by rw [hsz]; exact hm
      simp only [madeCells, Nat.zero_add]
      rw [Array.getElem?_map]
      have : (Array.range n)[i]? = some i := by simp [hlt]
      rw [this]
      simp only [Option.map_some, getElem!_pos z (i % z.size) hm']
      subst e
      simp
  · rw [List.getElem?_eq_none (by simpa using hlt)] at hi
    cases hi

/-- A new array. -/
theorem Rel.newArr {w : World} {F : Ft} {M : Mt} {H : Heap} (h : Rel w0 w F M H) (es : Nat) (e : TypeId) (cells : List AV) (n cap : Nat) (cs : Array Value) (hC : VRC F M cells cs 0)
    (hl : cells.length = n * es) (he : 0 < es) (hn : n ≤ cap) (hm : cap ≤ maxLen) (hs : cap * es ≤ cs.size) :
    ∃ r M', H r = none ∧ Ext F F M M' ∧ Rel w0 (w.alloc (.cells cs e)) F M' (upd H r (some (.arr es e cells n))) ∧ M' r n = some (some ⟨w.heap.size, 0, none⟩, cap, es) := by
  obtain ⟨N, hN⟩ := h.fresh
  have hH := (hN N (Nat.le_refl _)).1
  have hMN := (hN N (Nat.le_refl _)).2
  let M' : Mt := fun s t => if s = N ∧ t = n then some (some ⟨w.heap.size, 0, none⟩, cap, es) else M s t
  have hM' : M' N n = some (some ⟨w.heap.size, 0, none⟩, cap, es) := by simp [M']
  have hx : Ext F F M M' := ⟨fun _ _ h => h, fun s t y hy => by
    simp only [M']
    split
    · rename_i e; rw [e.1, hMN] at hy; cases hy
    · exact hy⟩
  have hnew : (w.alloc (.cells cs e)).heap[w.heap.size]? = some (.cells cs e) := heap_alloc_new w _
  have st := h.step (w' := w.alloc (.cells cs e)) (M' := M') N N (.arr es e cells n) rfl rfl rfl
    (fun b hb _ => heap_alloc_old w _ b hb) (fun s t => by
      simp only [M', Blk.gen]
      by_cases e : s = N ∧ t = n
      · exact .inr e
      · simp [e]) (fun x hx' => by simp only [Blk.gen] at hx'; rw [hMN] at hx'; cases hx') (.inl rfl)
    ⟨hl, he, _, cap, hM', hn, hm, .inr ⟨w.heap.size, 0, cs, rfl, h.F_none (Nat.le_refl _), hnew, by omega, hC.mono hx⟩⟩
    (fun g ⟨o, cap', es', hm, _⟩ => by simp only [Blk.gen] at hm; rw [hM'] at hm; cases hm; exact .inl (Nat.le_refl _))
    (fun t _ => hMN t)
  rw [upd_none_upd] at st
  exact ⟨N, M', hH, st.1, st.2, hM'⟩

/-- A new array without memory: a nil slice, or one of no capacity. -/
theorem Rel.newArr0 {w : World} {F : Ft} {M : Mt} {H : Heap} (h : Rel w0 w F M H) (es : Nat) (e : TypeId) (he : 0 < es) (a : Option Addr) :
    ∃ r M', H r = none ∧ Ext F F M M' ∧ Rel w0 w F M' (upd H r (some (.arr es e [] 0))) ∧ M' r 0 = some (a, 0, es) := by
  obtain ⟨N, hN⟩ := h.fresh
  have hH := (hN N (Nat.le_refl _)).1
  have hMN := (hN N (Nat.le_refl _)).2
  let M' : Mt := fun s t => if s = N ∧ t = 0 then some (a, 0, es) else M s t
  have hM' : M' N 0 = some (a, 0, es) := by simp [M']
  have hx : Ext F F M M' := ⟨fun _ _ h => h, fun s t y hy => by
    simp only [M']
    split
    · rename_i e; rw [e.1, hMN] at hy; cases hy
    · exact hy⟩
  have st := h.step (w' := w) (M' := M') N N (.arr es e [] 0) rfl rfl rfl
    (fun b hb _ => rfl) (fun s t => by
      simp only [M', Blk.gen]
      by_cases e : s = N ∧ t = 0
      · exact .inr e
      · simp [e]) (fun x hx' => by simp only [Blk.gen] at hx'; rw [hMN] at hx'; cases hx') (.inl rfl)
    ⟨by simp, he, _, 0, hM', Nat.le_refl _, Nat.zero_le _, .inl rfl⟩
    (fun g ⟨o, cap', es', hm, hc⟩ => by simp only [Blk.gen] at hm; rw [hM'] at hm; cases hm; exact absurd rfl (hc rfl))
    (fun t _ => hMN t)
  rw [upd_none_upd] at st
  exact ⟨N, M', hH, st.1, st.2, hM'⟩

/-- 'var s []T' where s will be appended to. -/
def nilOwnK (P : Program) (H : Heap) (t : TypeId) (K : AV → Heap → Prop) : Prop :=
  match slE P t with
  | some e => 0 < sz P e ∧ ∀ r, H r = none → K (.ref r 0 0 0) (upd H r (some (.arr (sz P e) e [] 0)))
  | none => False

theorem ok_nilOwn {o : Oper} {env : Env} {H : Heap} {K : Env → Heap → Prop} {x : Operand} (ho : o.op = .move x ∨ o.op = .assign x) (hx : isNilS (evO env x) = true)
    (h : nilOwnK P H o.type (fun v H' => putK nt o.dst v env (fun env' => K env' H'))) : OpOK P w0 nt o env H K := by
  refine op_heap fun w F M a r er => ?_
  have hv := er.ev x
  unfold nilOwnK at h
  split at h
  · rename_i e hs
    obtain ⟨hz, k⟩ := h
    obtain ⟨rr, M', hr, hxx, hrel, hM'⟩ := r.newArr0 (sz P e) e hz none
    have hcv : a.eval x = .slice none 0 0 := by
      unfold isNilS at hx
      split at hx
      · rename_i e1; rw [e1] at hv; exact hv.sc_inv
      · cases hx
    exact ⟨.slice none 0 0, w, .ref rr 0 0 0, _, F, M', by rcases ho with ho | ho <;> simp [execOp, ho, hcv], hxx, hrel, .ref hM' (Nat.le_refl _) (Nat.le_refl _) (.inl rfl), k rr hr⟩
  · exact h.elim

def buildSliceK (P : Program) (H : Heap) (own : Bool) (t : TypeId) (len : Nat) (parts : List (Nat × AV)) (K : AV → Heap → Prop) : Prop :=
  match slE P t with
  | some e => 0 < sz P e ∧ len * sz P e ≤ 16777216 ∧
    match zer P e with
    | some zs => zs.all Value.oneCell' = true ∧ zs.length = sz P e ∧
      fillA (fun i => some (i * sz P e, sz P e)) (zrep zs (len * sz P e)) parts (fun cells =>
        if own then ∀ r, H r = none → K (.ref r 0 len len) (upd H r (some (.arr (sz P e) e cells len)))
        else K (.sl cells len) H)
    | none => False
  | none => False

theorem ok_buildSlice {o : Oper} {env : Env} {H : Heap} {K : Env → Heap → Prop} {t : TypeId} {len : Nat} {parts : Array (Nat × Operand)} (own : Bool) (ho : o.op = .buildSlice t len parts)
    (h : buildSliceK P H own t len (parts.toList.map fun p => (p.1, evO env p.2)) (fun v H' => putK nt o.dst v env (fun env' => K env' H'))) : OpOK P w0 nt o env H K := by
  refine op_heap fun w F M a r er => ?_
  unfold buildSliceK at h
  split at h
  · rename_i e hs
    have hu := slE_eq hs
    obtain ⟨hz, hbig, h⟩ := h
    split at h
    · rename_i zs hzs
      obtain ⟨i, z, hi, hzz, hcs⟩ := zer_eq hzs
      obtain ⟨hone, hlen, h⟩ := h
      have hne : zs ≠ [] := by intro e0; rw [e0] at hlen; simp at hlen; omega
      have hC0 : VRC F M (zrep zs (len * sz P e)) (madeCells z.cells (len * sz P e)) 0 := VRC_zrep F M hone _ (.inl hne) hcs
      have hcells := fun (K' : List AV → Prop) (h : fillA (fun i => some (i * sz P e, sz P e)) (zrep zs (len * sz P e)) (parts.toList.map fun p => (p.1, evO env p.2)) K') =>
        fillA_ok (F := F) (M := M) _ (parts.toList.map fun p => (p.1, a.eval p.2)) _ _ (by simp) (fun j n av hj => by
          simp only [List.getElem?_map] at hj ⊢
          cases hp : parts.toList[j]? with
          | none => simp [hp] at hj
          | some p =>
            simp [hp] at hj
            obtain ⟨rfl, rfl⟩ := hj
            exact ⟨a.eval p.2, by simp, er.ev p.2⟩) hC0 (by rw [size_madeCells, zrep_length]) h
      obtain ⟨cells', cs', h1, h2, h3, h4, k⟩ := hcells _ h
      rw [zrep_length] at h4
      have hrun : (execOp a.eval o).run P w = .ok (.value (.slice (some ⟨w.heap.size, 0, none⟩) len len)) (w.alloc (.cells cs' e)) := by
        have hb : ¬ (16777216 < len * sz P e) := by omega
        by_cases h0 : len = 0
        · subst h0
          have hmk : madeCells z.cells (0 * sz P e) = #[] := by simp [madeCells]
          rw [hmk] at h1
          have hr0 : Array.range 0 = #[] := rfl
          simp [execOp, ho, Instr.buildSlice, run_underlying hu, run_sizeOf hz, hr0, h1, newRow]
        · have h2 : ¬ (len * sz P e = 0) := by
            intro h3
            rcases Nat.mul_eq_zero.1 h3 with h3 | h3 <;> omega
          have hzv : (zeroValue e).run P w = .ok z w := by simp [zeroValue, typeInfo, hi, hzz]
          have hb' : ¬ (len * sz P e > 2 ^ 24) := by omega
          simp only [madeCells] at h1
          simp only [execOp, ho, Instr.buildSlice, Sem.run_bind, run_underlying hu, Result.andThen_ok, run_sizeOf hz, if_neg hb', if_neg h2, hzv, Sem.run_pure, Array.toList_map, h1, newRow, run_newObj, World.alloc_eq]
      cases own
      · simp only [Bool.false_eq_true, if_false] at k
        obtain ⟨hx, hrel⟩ := r.newF (.cells cs' e)
        obtain ⟨ff, g1, g2, g3⟩ := (h2.mono hx).fn
        exact ⟨_, _, .sl cells' len, H, _, M, hrun, hx, hrel, .sl (o := 0) ff (upd_same _ _ _) (Nat.le_refl _) g1 g2 g3, k⟩
      · simp only [if_true] at k
        have hlen24 : len ≤ 16777216 := Nat.le_trans (Nat.le_mul_of_pos_right _ hz) hbig
        obtain ⟨rr, M', hr, hxx, hrel, hM'⟩ := r.newArr (sz P e) e cells' len len cs' h2 h4 hz (Nat.le_refl _) (by unfold maxLen; omega) (by omega)
        exact ⟨_, _, .ref rr 0 len len, _, F, M', hrun, hxx, hrel, .ref hM' (Nat.le_refl _) (by omega) (.inr ⟨w.heap.size, 0, rfl, by simp⟩), k rr hr⟩
    · exact h.elim
  · exact h.elim

def makeSliceK (P : Program) (H : Heap) (t : TypeId) (l c : AV) (K : AV → Heap → Prop) : Prop :=
  match l, c with
  | .sc (.int _ l), .sc (.int _ c) =>
    match slE P t with
    | some e => 0 < sz P e ∧ 0 ≤ l ∧ l ≤ c ∧ c ≤ 9223372036854775807 ∧ (byt P e : Int) * c ≤ 281474976710656 ∧
      match zer P e with
      | some zs => zs.all Value.oneCell' = true ∧ zs.length = sz P e ∧
        ∀ r, H r = none → K (.ref r 0 l.toNat l.toNat) (upd H r (some (.arr (sz P e) e (zrep zs (l.toNat * sz P e)) l.toNat)))
      | none => False
    | none => False
  | _, _ => False

theorem zrep_get (zs : List Value) {m n i : Nat} {av : AV} (hmn : m ≤ n) (h : (zrep zs m)[i]? = some av) : (zrep zs n)[i]? = some av := by
  have hi : i < m := by have := (List.getElem?_eq_some_iff.1 h).1; simpa [zrep_length] using this
  simp only [zrep, List.getElem?_map] at h ⊢
  rw [List.getElem?_range (by omega)] at h ⊢
  exact h

theorem ok_makeSlice {o : Oper} {env : Env} {H : Heap} {K : Env → Heap → Prop} {t : TypeId} {l c : Operand} (ho : o.op = .makeSlice t l c)
    (h : makeSliceK P H t (evO env l) (evO env c) (fun v H' => putK nt o.dst v env (fun env' => K env' H'))) : OpOK P w0 nt o env H K := by
  refine op_heap fun w F M a r er => ?_
  have hl := er.ev l
  have hc := er.ev c
  unfold makeSliceK at h
  split at h
  · rename_i kl lv kc cv e1 e2
    rw [e1] at hl; rw [e2] at hc
    split at h
    · rename_i e hs
      have hu := slE_eq hs
      obtain ⟨hz, h0, hlc, h63, hby, h⟩ := h
      split at h
      · rename_i zs hzs
        obtain ⟨i, z, hi, hzz, hcs⟩ := zer_eq hzs
        obtain ⟨i', hi', hisz, hiby⟩ := sz_info hz
        rw [hi] at hi'; cases hi'
        obtain ⟨hone, hlen, k⟩ := h
        have hne : zs ≠ [] := by intro e0; rw [e0] at hlen; simp at hlen; omega
        have hC0 : VRC F M (zrep zs (cv.toNat * sz P e)) (madeCells z.cells (cv.toNat * sz P e)) 0 := VRC_zrep F M hone _ (.inl hne) hcs
        have hle : lv.toNat * sz P e ≤ cv.toNat * sz P e := Nat.mul_le_mul_right _ (by omega)
        have hC1 : VRC F M (zrep zs (lv.toNat * sz P e)) (madeCells z.cells (cv.toNat * sz P e)) 0 := fun j av hj => hC0 j av (zrep_get zs hle hj)
        have hr := run_make (P := P) w t e i z hu hi hzz kl kc lv cv h0 hlc (by rw [hiby]; exact hby) h63
        rw [hisz] at hr
        obtain ⟨rr, M', hrn, hxx, hrel, hM'⟩ := r.newArr (sz P e) e _ lv.toNat cv.toNat _ hC1 (zrep_length _ _) hz (by omega) (by unfold maxLen; omega) (by rw [size_madeCells]; exact Nat.le_refl _)
        exact ⟨.slice (some ⟨w.heap.size, 0, none⟩) lv.toNat cv.toNat, _, .ref rr 0 lv.toNat lv.toNat, _, F, M', by simp [execOp, ho, hl.sc_inv, hc.sc_inv, hr], hxx, hrel, .ref hM' (by omega) (by omega) (.inr ⟨w.heap.size, 0, rfl, by simp⟩), k rr hrn⟩
      · exact h.elim
    · exact h.elim
  · exact h.elim

/-- Where a slice's cells stand, and that they are read so. -/
theorem src_ok {w : World} {F : Ft} {M : Mt} {H : Heap} {x : AV} {cv : Value} {es m : Nat} {cells : List AV} (r : Rel w0 w F M H) (hv : VR F M x cv) (hl : slLen x = some m) (hc : slCells H es x = some cells) :
    ∃ b c, cv = .slice b m c ∧ m ≤ c ∧ ∃ news : List Value, VRL F M cells news ∧ (∀ (i : Nat) (y : AV), cells[i]? = some y → y.one = true) ∧ cells.length = m * es ∧
      (∀ w' : World, w'.heap = w.heap → (Builtin.firstCells es m (.slice b m c)).run P w' = .ok news.toArray w') ∧
      (∀ j v, news[j]? = some v → ∃ ad, b = some ad ∧ w.cell? (ad.add j) = some v) := by
  have rowcase : ∀ (sub : List AV) (g o : Nat) (cs : Array Value) (e : TypeId) (fz : Nat × Nat) (c : Nat), w.heap[g]? = some (.cells cs e fz) → VRC F M sub cs o → sub.length = m * es →
      ∃ news : List Value, VRL F M sub news ∧ (∀ (i : Nat) (y : AV), sub[i]? = some y → y.one = true) ∧ sub.length = m * es ∧
        (∀ w' : World, w'.heap = w.heap → (Builtin.firstCells es m (.slice (some ⟨g, o, none⟩) m c)).run P w' = .ok news.toArray w') ∧
        (∀ j v, news[j]? = some v → ∃ ad, some (⟨g, o, none⟩ : Addr) = some ad ∧ w.cell? (ad.add j) = some v) := by
    intro sub g o cs e fz c hg hC hlen
    obtain ⟨f, h1, h2, h3⟩ := hC.fn
    have hcell : ∀ (w' : World), w'.heap = w.heap → ∀ j v, ((List.range sub.length).map f)[j]? = some v → w'.cell? ((⟨g, o, none⟩ : Addr).add j) = some v := by
      intro w' hw j v hj
      have hi : j < sub.length := by have := (List.getElem?_eq_some_iff.1 hj).1; simpa using this
      simp only [List.getElem?_map, List.getElem?_range hi, Option.map_some, Option.some.injEq] at hj
      rw [addr_add]
      have hj' := h1 j sub[j] (by simp [hi])
      rw [hj] at hj'
      exact cell_of (w := w') (by rw [hw]; exact hg) hj'
    refine ⟨(List.range sub.length).map f, ⟨by simp, ?_⟩, h3, hlen, ?_, fun j v hj => ⟨_, rfl, hcell w rfl j v hj⟩⟩
    · intro i av cv' ha hb
      have hi : i < sub.length := (List.getElem?_eq_some_iff.1 ha).1
      simp only [List.getElem?_map, List.getElem?_range hi, Option.map_some, Option.some.injEq] at hb
      subst hb; exact h2 i av ha
    · intro w' hw
      exact run_firstCells_some w' es m _ m c _ (by simp [hlen]) (hcell w' hw)
  have nilcase : m = 0 → cells = [] → ∀ (b : Option Addr) (c : Nat), ∃ news : List Value, VRL F M cells news ∧ (∀ (i : Nat) (y : AV), cells[i]? = some y → y.one = true) ∧ cells.length = m * es ∧
        (∀ w' : World, w'.heap = w.heap → (Builtin.firstCells es m (.slice b m c)).run P w' = .ok news.toArray w') ∧
        (∀ j v, news[j]? = some v → ∃ ad, b = some ad ∧ w.cell? (ad.add j) = some v) := by
    intro h0 h1 b c
    subst h0 h1
    refine ⟨[], VRL.nil, by simp, by simp, fun w' _ => ?_, by simp⟩
    cases b <;> simp [Builtin.firstCells, loadCells, loadCellsFrom]
  have subC : ∀ (cells0 : List AV) (k n : Nat) (cs : Array Value) (o : Nat), VRC F M cells0 cs o → VRC F M ((cells0.drop k).take n) cs (o + k) := by
    intro cells0 k n cs o hC i av hi
    rw [List.getElem?_take] at hi
    split at hi
    · rw [List.getElem?_drop] at hi
      obtain ⟨p, cv', q, s⟩ := hC _ _ hi
      exact ⟨p, cv', by rw [Nat.add_assoc]; exact q, s⟩
    · cases hi
  unfold slLen at hl
  unfold slCells at hc
  split at hl <;> try (cases hl; done)
  · -- sl
    rename_i cells0 n
    cases hl
    simp only at hc
    split at hc
    · rename_i hfit
      cases hc
      obtain ⟨b, c, rfl, hnc, hcase⟩ := hv.sl_inv
      refine ⟨b, c, rfl, hnc, ?_⟩
      rcases hcase with ⟨rfl, rfl⟩ | ⟨g, o, cs, e, fz, rfl, hF, hC⟩
      · exact nilcase rfl (by simp) b c
      · have := subC cells0 0 (m * es) cs o hC
        simp only [List.drop_zero, Nat.add_zero] at this
        exact rowcase _ g o cs e fz c (r.hF _ _ hF) this (by simp; omega)
    · cases hc
  · -- csl
    rename_i cells0 n
    cases hl
    simp only at hc
    split at hc
    · rename_i hfit
      cases hc
      obtain ⟨b, rfl, hcase⟩ := hv.csl_inv
      refine ⟨b, _, rfl, Nat.le_refl _, ?_⟩
      rcases hcase with ⟨rfl, rfl⟩ | ⟨g, o, cs, e, fz, rfl, hF, hC⟩
      · exact nilcase rfl (by simp) b _
      · have := subC cells0 0 (m * es) cs o hC
        simp only [List.drop_zero, Nat.add_zero] at this
        exact rowcase _ g o cs e fz _ (r.hF _ _ hF) this (by simp; omega)
    · cases hc
  · -- ref
    rename_i rr off n top
    cases hl
    simp only at hc
    split at hc
    · rename_i es' e' cells0 n' hH
      split at hc
      · rename_i hcond
        obtain ⟨rfl, rfl, hfit⟩ := hcond
        cases hc
        obtain ⟨b, c, a, cap, es2, rfl, hnc, hoc, hM, hcase⟩ := hv.ref_inv
        refine ⟨b, c, rfl, hnc, ?_⟩
        by_cases h0 : m = 0
        · refine nilcase h0 (by rw [h0]; simp) b c
        · obtain ⟨h1, h2, a2, cap2, hM2, h4, h5, h6⟩ := r.blk rr _ hH
          rw [hM] at hM2; cases hM2
          rcases hcase with hc0 | ⟨g, o, rfl, rfl⟩
          · omega
          · rcases h6 with h6 | ⟨g', o', cs, e1, h7, h8, h9, h10⟩
            · omega
            · cases e1
              have hs := subC cells0 (off * es') (m * es') cs o h10
              refine rowcase _ g _ cs e' (0, 0) c h8 hs ?_
              rw [Nat.add_mul] at hfit
              simp; omega
      · cases hc
    · cases hc
  · -- cref
    rename_i rr off n top
    cases hl
    simp only at hc
    split at hc
    · rename_i es' e' cells0 n' hH
      split at hc
      · rename_i hcond
        obtain ⟨rfl, rfl, hfit⟩ := hcond
        cases hc
        obtain ⟨b, a, cap, es2, rfl, hoc, hM, hcase⟩ := hv.cref_inv
        refine ⟨b, _, rfl, Nat.le_refl _, ?_⟩
        by_cases h0 : m = 0
        · refine nilcase h0 (by rw [h0]; simp) b _
        · obtain ⟨h1, h2, a2, cap2, hM2, h4, h5, h6⟩ := r.blk rr _ hH
          rw [hM] at hM2; cases hM2
          rcases hcase with hc0 | ⟨g, o, rfl, rfl⟩
          · omega
          · rcases h6 with h6 | ⟨g', o', cs, e1, h7, h8, h9, h10⟩
            · omega
            · cases e1
              have hs := subC cells0 (off * es') (m * es') cs o h10
              refine rowcase _ g _ cs e' (0, 0) _ h8 hs ?_
              rw [Nat.add_mul] at hfit
              simp; omega
      · cases hc
    · cases hc
  · -- nil
    cases hl
    simp only at hc
    cases hc
    have := hv.sc_inv
    subst this
    exact ⟨none, 0, rfl, Nat.le_refl _, nilcase rfl rfl none 0⟩
end
end Go.Am
