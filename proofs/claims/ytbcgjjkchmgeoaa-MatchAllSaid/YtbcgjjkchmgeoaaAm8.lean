/- The abstract machine, part 8: append, copy, clear, len, min, max; calls. -/
import Derived.Test.YtbcgjjkchmgeoaaAm7
namespace Go.Am
open Go

section
variable {P : Program} {w0 : World} {nt : Nat}

/-- What append asks, and leaves. -/
def appendK (P : Program) (H : Heap) (t1 t2 : TypeId) (s x : AV) (K : AV → Heap → Prop) : Prop :=
  match slE P t1, slE P t2 with
  | some e, some _ => 0 < sz P e ∧ (zer P e).map List.length = some (sz P e) ∧
    match slLen x, slCells H (sz P e) x with
    | some m, some new =>
      match s with
      | .ref r off n top => (n + m) * byt P e ≤ 140737488355328 ∧ n + m ≤ 4611686018427387904 ∧ match H r with
        | some (.arr es e' cells n') => n' = top ∧ es = sz P e ∧ e' = e ∧ off + n ≤ top ∧
          (if off = 0 ∧ n = top then K (.ref r 0 (n + m) (n + m)) (upd H r (some (.arr es e (cells ++ new) (n + m))))
           else ∀ r', H r' = none → K (.ref r' 0 (n + m) (n + m)) (upd (upd H r none) r' (some (.arr es e ((cells.drop (off * es)).take (n * es) ++ new) (n + m)))))
        | _ => False
      | s => match slLen s, slCells H (sz P e) s with
        | some n, some old => (∀ cells k, s ≠ .sl cells k) ∧ (m = 0 → n = 0) ∧ (n + m) * byt P e ≤ 140737488355328 ∧ n + m ≤ 4611686018427387904 ∧
          ∀ r', H r' = none → K (.ref r' 0 (n + m) (n + m)) (upd H r' (some (.arr (sz P e) e (old ++ new) (n + m))))
        | _, _ => False
    | _, _ => False
  | _, _ => False

theorem run_append_in {t1 t2 ty e e2 : TypeId} (h1 : P.underlying t1 = some (.slice e)) (h2 : P.underlying t2 = some (.slice e2)) (hz : 0 < sz P e) {w : World} {x : Value} {n c m c2 : Nat} {b2 : Option Addr} {news : List Value}
    (hx : x = .slice b2 m c2) (hnews : ∀ w' : World, w'.heap = w.heap → (Builtin.firstCells (sz P e) m x).run P w' = .ok news.toArray w') (hroom : n + m ≤ c)
    {g o : Nat} {cur : Array Value} (hg : w.heap[g]? = some (.cells cur e (0, 0))) (hl : news.length = m * sz P e) (hfit : o + (n + m) * sz P e ≤ cur.size) (h1c : ∀ u ∈ news, u.oneCell' = true) :
    (Builtin.append_ #[t1, t2] ty #[.slice (some ⟨g, o, none⟩) n c, x]).run P w =
      .ok (.slice (some ⟨g, o, none⟩) (n + m) c) (w.setRow g (cur.toList.take (o + n * sz P e) ++ news ++ cur.toList.drop (o + n * sz P e + news.length)).toArray) := by
  subst hx
  rw [Nat.add_mul] at hfit
  have hst := run_storeCells_at P g (o + n * sz P e) e news 0 cur w hg (by omega) h1c
  simp only [Nat.add_zero] at hst
  have hn := hnews w rfl
  simp [Builtin.append_, run_underlying h1, run_underlying h2, run_sizeOf hz, Builtin.lenOf, hroom, hn, addr_add, hst]

theorem run_append_none {t1 t2 ty e e2 : TypeId} (h1 : P.underlying t1 = some (.slice e)) (h2 : P.underlying t2 = some (.slice e2)) (hz : 0 < sz P e) {w : World} {x : Value} {n c c2 : Nat} {b b2 : Option Addr}
    (hx : x = .slice b2 0 c2) (hnews : ∀ w' : World, w'.heap = w.heap → (Builtin.firstCells (sz P e) 0 x).run P w' = .ok #[] w') (hroom : n ≤ c) :
    (Builtin.append_ #[t1, t2] ty #[.slice b n c, x]).run P w = .ok (.slice b n c) w := by
  subst hx
  have hn := hnews w rfl
  cases b <;> simp [Builtin.append_, run_underlying h1, run_underlying h2, run_sizeOf hz, Builtin.lenOf, hroom, hn, storeCells]

theorem run_append_out {t1 t2 ty e e2 : TypeId} {i : TypeInfo} {z : Value} (h1 : P.underlying t1 = some (.slice e)) (h2 : P.underlying t2 = some (.slice e2)) (hi : P.info? e = some i) (hz : i.zero = some z) {w : World} {x : Value} {n c m c2 : Nat} {b b2 : Option Addr} {olds news : List Value}
    (hx : x = .slice b2 m c2) (hnews : ∀ w' : World, w'.heap = w.heap → (Builtin.firstCells i.size m x).run P w' = .ok news.toArray w')
    (holds : ∀ w' : World, w'.heap = w.heap → (Builtin.firstCells i.size n (.slice b n c)).run P w' = .ok olds.toArray w')
    (hg : c < n + m) (h63 : n + m ≤ 4611686018427387904) (hfit : (n + m) * i.bytes ≤ 140737488355328) :
    (Builtin.append_ #[t1, t2] ty #[.slice b n c, x]).run P w =
      .ok (.slice (some ⟨w.heap.size, 0, none⟩) (n + m) (grownCap w (n + m) c e)) (w.drew.alloc (.cells (olds.toArray ++ news.toArray ++ Builtin.zeroCells z.cells (grownCap w (n + m) c e - (n + m))) e)) := by
  subst hx
  have hn : ¬ (n + m ≤ c) := by omega
  have h63' : ¬ (9223372036854775807 < ((n : Int) + (m : Int))) := by omega
  have h48 := growslice_fits (need := n + m) (old := c) hg hfit
  have h48' : ¬ (281474976710656 < Builtin.nextslicecap (n + m) c * i.bytes) := by omega
  have hf := hnews w.drew rfl
  have hfo := holds w.drew rfl
  simp [Builtin.append_, run_underlying h1, run_underlying h2, sizeOf, typeInfo, zeroValue, hi, hz, Builtin.lenOf, hn, h63', h48', Question.forced, hf, hfo, newRow, grownCap]
  congr 2
  apply Array.ext'
  simp [List.append_assoc]

theorem VRC_row {F : Ft} {M : Mt} {A B : List AV} {ca cb : List Value} (ha : VRL F M A ca) (hb : VRL F M B cb) (h1 : ∀ (i : Nat) (y : AV), A[i]? = some y → y.one = true) (h2 : ∀ (i : Nat) (y : AV), B[i]? = some y → y.one = true) (z : Array Value) :
    VRC F M (A ++ B) (ca.toArray ++ cb.toArray ++ z) 0 := by
  intro i av hi
  have hab := ha.append hb
  obtain ⟨cv, hcv, hv⟩ := hab.get hi
  refine ⟨?_, cv, ?_, hv⟩
  · rw [List.getElem?_append] at hi
    split at hi
    · exact h1 _ _ hi
    · exact h2 _ _ hi
  · have hlt : i < (ca ++ cb).length := (List.getElem?_eq_some_iff.1 hcv).1
    rw [Nat.zero_add, Array.getElem?_append_left (by simpa using hlt)]
    rw [← hcv]; simp [← Array.getElem?_toList]

/-- What an append comes to. -/
def AppRes (P : Program) (w0 w : World) (F : Ft) (M : Mt) (t1 t2 ty : TypeId) (cs cx : Value) (K : AV → Heap → Prop) : Prop :=
  ∃ cv w' v H' F' M', (Builtin.append_ #[t1, t2] ty #[cs, cx]).run P w = .ok cv w' ∧ Ext F F' M M' ∧ Rel w0 w' F' M' H' ∧ VR F' M' v cv ∧ K v H'

theorem append_whole {w : World} {F : Ft} {M : Mt} {H : Heap} {t1 t2 ty e e2 : TypeId} {i : TypeInfo} {z : Value} {m c2 : Nat} {b2 : Option Addr} {new : List AV} {news : List Value} {K : AV → Heap → Prop}
    (r : Rel w0 w F M H) (hu1 : P.underlying t1 = some (.slice e)) (hu2 : P.underlying t2 = some (.slice e2)) (hz : 0 < sz P e) (hi : P.info? e = some i) (hzz : i.zero = some z) (hzc : z.cells.size = sz P e)
    (hisz : i.size = sz P e) (hiby : i.bytes = byt P e) (hvn : VRL F M new news) (h1n : ∀ (i : Nat) (y : AV), new[i]? = some y → y.one = true) (hln : new.length = m * sz P e)
    (hnews : ∀ w' : World, w'.heap = w.heap → (Builtin.firstCells (sz P e) m (.slice b2 m c2)).run P w' = .ok news.toArray w')
    {rr n : Nat} {cells : List AV} {cv : Value} (hs : VR F M (.ref rr 0 n n) cv) (hH : H rr = some (.arr (sz P e) e cells n)) (hby : (n + m) * byt P e ≤ 140737488355328) (h63 : n + m ≤ 4611686018427387904)
    (h : K (.ref rr 0 (n + m) (n + m)) (upd H rr (some (.arr (sz P e) e (cells ++ new) (n + m))))) : AppRes P w0 w F M t1 t2 ty cv (.slice b2 m c2) K := by
  have hnlen : news.length = m * sz P e := by rw [← hvn.1, hln]
  have hone := one_all hvn h1n
  obtain ⟨b, c, ab, cap, es0, rfl, hnc, hoc, hM, hcase⟩ := hs.ref_inv
  obtain ⟨hb1, hb2, a2, cap2, hM2, hb4, hb5, hb6⟩ := r.blk rr _ hH
  rw [hM] at hM2; cases hM2
  have hcapmax : c ≤ maxLen := by omega
  have hallc : (cells.drop (0 * sz P e)).take (n * sz P e) = cells := by
    rw [Nat.zero_mul, List.drop_zero, ← hb1, List.take_length]
  have hsrc := src_ok (P := P) (es := sz P e) (m := n) (cells := cells) r hs rfl (by
    have hfit : (0 + n) * sz P e ≤ cells.length := by rw [Nat.zero_add, hb1]; exact Nat.le_refl _
    simp only [slCells, hH]
    rw [if_pos ⟨trivial, trivial, hfit⟩, hallc])
  obtain ⟨bo, co, hcvo, _, olds, hvo, h1o, hlo, holds, _⟩ := hsrc
  cases hcvo
  have inplace : n + m ≤ c → 0 < m → ∃ g o' cs, ab = some ⟨g, o', none⟩ ∧ b = some ⟨g, o' + 0 * sz P e, none⟩ ∧ F g = none ∧ w.heap[g]? = some (.cells cs e (0, 0)) ∧ o' + cap * sz P e ≤ cs.size ∧ VRC F M cells cs o' := by
    intro h1 h2
    rcases hcase with hc0 | ⟨g, o', rfl, rfl⟩
    · omega
    · rcases hb6 with hb6 | ⟨g', o2, cs, e1, h7, h8, h9, h10⟩
      · omega
      · cases e1
        exact ⟨g, o', cs, rfl, rfl, h7, h8, h9, h10⟩
  rw [← upd_none_upd] at h
  have hgens : ∀ t, n + m < t → M rr t = none := fun t ht => r.gens rr _ hH t (by show n < t; omega)
  let k' : Blk := .arr (sz P e) e (cells ++ new) (n + m)
  have hkl : (cells ++ new).length = (n + m) * sz P e := by rw [List.length_append, hb1, hln, Nat.add_mul]
  by_cases hm0 : m = 0
  · -- nothing is appended
    subst hm0
    have hnews0 : news = [] := List.eq_nil_of_length_eq_zero (by omega)
    have hnew0 : new = [] := List.eq_nil_of_length_eq_zero (by omega)
    subst hnews0 hnew0
    have hrun := run_append_none (P := P) (ty := ty) hu1 hu2 hz (w := w) (b := b) (n := n) (c := c) rfl (by simpa using hnews) hnc
    have hself : upd (upd H rr none) rr (some (.arr (sz P e) e (cells ++ []) (n + 0))) = H := by
      rw [upd_none_upd, List.append_nil, Nat.add_zero, ← hH, upd_self]
    rw [hself] at h
    exact ⟨_, w, _, H, F, M, hrun, Ext.refl _ _, r, .ref (c := c) hM (by omega) hoc hcase, h⟩
  · have hm : 0 < m := by omega
    by_cases hroom : n + m ≤ c
    · obtain ⟨g, o', cs, rfl, rfl, hFg, hg, hfitc, hC⟩ := inplace hroom hm
      have hcc : (n + m) * sz P e ≤ cap * sz P e := Nat.mul_le_mul_right _ (by omega)
      have hrun := run_append_in (P := P) (ty := ty) (t1 := t1) (t2 := t2) hu1 hu2 hz (w := w) (n := n) (c := c) rfl hnews hroom (o := o' + 0 * sz P e) hg hnlen (by omega) hone
      simp only [Nat.zero_mul, Nat.add_zero] at hrun
      have hown : Owns M rr (.arr (sz P e) e cells n) g := ⟨o', cap, sz P e, hM, fun _ => by omega⟩
      let M' : Mt := fun s t => if s = rr ∧ t = n + m then some (some ⟨g, o', none⟩, c, sz P e) else M s t
      have hM' : M' rr (n + m) = some (some ⟨g, o', none⟩, c, sz P e) := by simp [M']
      have hnone : M rr (n + m) = none := r.gens rr _ hH _ (by simp [Blk.gen]; omega)
      have hx' : Ext F F M M' := ⟨fun _ _ h => h, fun s t y hy => by
        simp only [M']
        split
        · rename_i e; rw [e.1, e.2, hnone] at hy; cases hy
        · exact hy⟩
      generalize hcs' : (cs.toList.take (o' + n * sz P e) ++ news ++ cs.toList.drop (o' + n * sz P e + news.length)).toArray = cs' at hrun
      have hsz' : cs'.size = cs.size := by rw [← hcs']; rw [Nat.add_mul] at hcc; simp; omega
      have hC' : VRC F M (cells ++ new) cs' o' := by
        have h0 : VRC F M (cells ++ new) (cs.toList.take (o' + n * sz P e) ++ news ++ cs.toList.drop (o' + n * sz P e + news.length)).toArray o' := by
          intro j av hj
          rw [List.getElem?_append] at hj
          rw [Nat.add_mul] at hcc
          have htk : (cs.toList.take (o' + n * sz P e)).length = o' + n * sz P e := by simp; omega
          by_cases hjl : j < cells.length
          · rw [if_pos hjl] at hj
            obtain ⟨p, cv, q, s⟩ := hC j av hj
            refine ⟨p, cv, ?_, s⟩
            simp only [List.getElem?_toArray, List.append_assoc]
            rw [List.getElem?_append_left (by omega), List.getElem?_take, if_pos (by omega)]
            simpa using q
          · rw [if_neg hjl] at hj
            obtain ⟨cv, q, s⟩ := hvn.get hj
            have hjn : j - cells.length < news.length := (List.getElem?_eq_some_iff.1 q).1
            refine ⟨h1n _ _ hj, cv, ?_, s⟩
            simp only [List.getElem?_toArray, List.append_assoc]
            rw [List.getElem?_append_right (by omega), htk, List.getElem?_append_left (by omega), ← q]
            congr 1; omega
        rw [hcs'] at h0; exact h0
      have st := r.step (w' := w.setRow g cs') (M' := M') rr rr k' rfl rfl rfl
        (fun bb hbb hno => setRow_other w g bb cs' (fun e0 => by subst e0; exact hno _ hH hown))
        (fun s t => by
          simp only [M', k', Blk.gen]
          by_cases e : s = rr ∧ t = n + m
          · exact .inr e
          · simp [e])
        (fun x hx0 => by simp only [k', Blk.gen] at hx0; rw [hnone] at hx0; cases hx0) (.inl rfl)
        ⟨hkl, hz, _, c, hM', hroom, hcapmax, .inr ⟨g, o', cs', rfl, hFg, setRow_heap w g cs cs' e (0, 0) hg, by
          have : c * sz P e ≤ cap * sz P e := Nat.mul_le_mul_right _ (by omega)
          omega, hC'.mono hx'⟩⟩
        (fun g' ⟨o3, cap', es', hm3, _⟩ => by simp only [k', Blk.gen] at hm3; rw [hM'] at hm3; cases hm3; exact .inr ⟨_, hH, hown⟩)
        (fun t ht => hgens t ht)
      simp only [Nat.zero_mul, Nat.add_zero]
      exact ⟨_, _, _, _, F, M', hrun, st.1, st.2, .ref hM' hroom (by omega) (.inr ⟨g, o', rfl, by simp⟩), h⟩
    · -- a new row
      have hgr : c < n + m := by omega
      have hrun := run_append_out (P := P) (ty := ty) (t1 := t1) (t2 := t2) hu1 hu2 hi hzz (w := w) (b := b) (n := n) (c := c) rfl (by rw [hisz]; exact hnews) (by rw [hisz]; exact holds) hgr h63 (by rw [hiby]; exact hby)
      have hge := grownCap_ge w (n + m) c e
      have hcm := grownCap_le_maxLen w (n + m) c e (by unfold maxLen; omega)
      generalize hcp : grownCap w (n + m) c e = cp at hrun hge hcm
      let M' : Mt := fun s t => if s = rr ∧ t = n + m then some (some ⟨w.heap.size, 0, none⟩, cp, sz P e) else M s t
      have hM' : M' rr (n + m) = some (some ⟨w.heap.size, 0, none⟩, cp, sz P e) := by simp [M']
      have hnone : M rr (n + m) = none := r.gens rr _ hH _ (by simp [Blk.gen]; omega)
      have hx' : Ext F F M M' := ⟨fun _ _ h => h, fun s t y hy => by
        simp only [M']
        split
        · rename_i e; rw [e.1, e.2, hnone] at hy; cases hy
        · exact hy⟩
      have hC' := VRC_row hvo hvn h1o h1n (Builtin.zeroCells z.cells (cp - (n + m)))
      generalize hcs' : (olds.toArray ++ news.toArray ++ Builtin.zeroCells z.cells (cp - (n + m))) = cs' at hrun hC'
      have hsz' : cs'.size = cp * sz P e := by
        rw [← hcs']
        simp only [Array.size_append, List.size_toArray, size_zeroCells, hzc, ← hvo.1, ← hvn.1, hb1, hln, ← Nat.add_mul]
        congr 1; omega
      have hnewh : (w.drew.alloc (.cells cs' e)).heap[w.heap.size]? = some (.cells cs' e) := heap_alloc_new w.drew _
      have st := r.step (w' := w.drew.alloc (.cells cs' e)) (M' := M') rr rr k' rfl rfl rfl
        (fun bb hbb _ => heap_alloc_old w.drew _ bb hbb)
        (fun s t => by
          simp only [M', k', Blk.gen]
          by_cases e : s = rr ∧ t = n + m
          · exact .inr e
          · simp [e])
        (fun x hx0 => by simp only [k', Blk.gen] at hx0; rw [hnone] at hx0; cases hx0) (.inl rfl)
        ⟨hkl, hz, _, cp, hM', hge, hcm, .inr ⟨w.heap.size, 0, cs', rfl, r.F_none (Nat.le_refl _), hnewh, by omega, hC'.mono hx'⟩⟩
        (fun g' ⟨o3, cap', es', hm3, _⟩ => by simp only [k', Blk.gen] at hm3; rw [hM'] at hm3; cases hm3; exact .inl (Nat.le_refl _))
        (fun t ht => hgens t ht)
      exact ⟨_, _, _, _, F, M', hrun, st.1, st.2, .ref hM' hge (by omega) (.inr ⟨w.heap.size, 0, rfl, by simp⟩), h⟩

theorem append_part {w : World} {F : Ft} {M : Mt} {H : Heap} {t1 t2 ty e e2 : TypeId} {i : TypeInfo} {z : Value} {m c2 : Nat} {b2 : Option Addr} {new : List AV} {news : List Value} {K : AV → Heap → Prop}
    (r : Rel w0 w F M H) (hu1 : P.underlying t1 = some (.slice e)) (hu2 : P.underlying t2 = some (.slice e2)) (hz : 0 < sz P e) (hi : P.info? e = some i) (hzz : i.zero = some z) (hzc : z.cells.size = sz P e)
    (hisz : i.size = sz P e) (hiby : i.bytes = byt P e) (hvn : VRL F M new news) (h1n : ∀ (i : Nat) (y : AV), new[i]? = some y → y.one = true) (hln : new.length = m * sz P e)
    (hnews : ∀ w' : World, w'.heap = w.heap → (Builtin.firstCells (sz P e) m (.slice b2 m c2)).run P w' = .ok news.toArray w')
    {rr off n top : Nat} {cells : List AV} {cv : Value} (hs : VR F M (.ref rr off n top) cv) (hH : H rr = some (.arr (sz P e) e cells top)) (hot : off + n ≤ top) (hby : (n + m) * byt P e ≤ 140737488355328) (h63 : n + m ≤ 4611686018427387904)
    (h : ∀ r', H r' = none → K (.ref r' 0 (n + m) (n + m)) (upd (upd H rr none) r' (some (.arr (sz P e) e ((cells.drop (off * sz P e)).take (n * sz P e) ++ new) (n + m))))) : AppRes P w0 w F M t1 t2 ty cv (.slice b2 m c2) K := by
  have hnlen : news.length = m * sz P e := by rw [← hvn.1, hln]
  have hone := one_all hvn h1n
  obtain ⟨b, c, ab, cap, es0, rfl, hnc, hoc, hM, hcase⟩ := hs.ref_inv
  obtain ⟨hb1, hb2, a2, cap2, hM2, hb4, hb5, hb6⟩ := r.blk rr _ hH
  rw [hM] at hM2; cases hM2
  have hcapmax : c ≤ maxLen := by omega
  have hsrc := src_ok (P := P) (es := sz P e) (m := n) (cells := (cells.drop (off * sz P e)).take (n * sz P e)) r hs rfl (by
    have hfit : (off + n) * sz P e ≤ cells.length := by rw [hb1]; exact Nat.mul_le_mul_right _ hot
    simp only [slCells, hH]
    rw [if_pos ⟨trivial, trivial, hfit⟩])
  obtain ⟨bo, co, hcvo, _, olds, hvo, h1o, hlo, holds, _⟩ := hsrc
  cases hcvo
  obtain ⟨N, hN⟩ := r.fresh
  have hHN := (hN N (Nat.le_refl _)).1
  have hMN := (hN N (Nat.le_refl _)).2
  have k := h N hHN
  generalize hsub : (cells.drop (off * sz P e)).take (n * sz P e) = sub at hvo h1o hlo k
  have hkl : (sub ++ new).length = (n + m) * sz P e := by rw [List.length_append, hlo, hln, Nat.add_mul]
  let k' : Blk := .arr (sz P e) e (sub ++ new) (n + m)
  have fin : ∀ (w' : World) (bb : Option Addr) (cp : Nat) (row : Nat), w'.os = w.os → w'.tape = w.tape → w'.output = w.output →
      (∀ j, j < w.heap.size → (∀ kk, H rr = some kk → ¬ Owns M rr kk j) → w'.heap[j]? = w.heap[j]?) → n + m ≤ cp → cp ≤ maxLen →
      (cp = 0 ∨ ∃ g o' cs, bb = some ⟨g, o', none⟩ ∧ F g = none ∧ w'.heap[g]? = some (.cells cs e (0, 0)) ∧ o' + cp * sz P e ≤ cs.size ∧ VRC F M (sub ++ new) cs o' ∧ (w.heap.size ≤ g ∨ ∃ kk, H rr = some kk ∧ Owns M rr kk g)) →
      (Builtin.append_ #[t1, t2] ty #[.slice b n c, .slice b2 m c2]).run P w = .ok (.slice bb (n + m) cp) w' →
      AppRes P w0 w F M t1 t2 ty (.slice b n c) (.slice b2 m c2) K := by
    intro w' bb cp row q1 q2 q3 q4 q5 q6 q7 hrun
    let M' : Mt := fun s t => if s = N ∧ t = n + m then some (bb, cp, sz P e) else M s t
    have hM' : M' N (n + m) = some (bb, cp, sz P e) := by simp [M']
    have hx' : Ext F F M M' := ⟨fun _ _ h => h, fun s t y hy => by
      simp only [M']
      split
      · rename_i e; rw [e.1, hMN] at hy; cases hy
      · exact hy⟩
    have st := r.step (w' := w') (M' := M') rr N k' q1 q2 q3 q4
      (fun s t => by
        simp only [M', k', Blk.gen]
        by_cases e : s = N ∧ t = n + m
        · exact .inr e
        · simp [e])
      (fun x hx0 => by simp only [k', Blk.gen] at hx0; rw [hMN] at hx0; cases hx0) (.inr hHN)
      ⟨hkl, hz, _, cp, hM', q5, q6, by
        rcases q7 with q7 | ⟨g, o', cs, p1, p2, p3, p4, p5, p6⟩
        · exact .inl q7
        · exact .inr ⟨g, o', cs, p1, p2, p3, p4, p5.mono hx'⟩⟩
      (fun g' ⟨o3, cap', es', hm3, hc3⟩ => by
        simp only [k', Blk.gen] at hm3; rw [hM'] at hm3; cases hm3
        rcases q7 with q7 | ⟨g, o', cs, p1, p2, p3, p4, p5, p6⟩
        · exact absurd q7 (hc3 rfl)
        · cases p1; exact p6)
      (fun t _ => hMN t)
    refine ⟨_, _, _, _, F, M', hrun, st.1, st.2, .ref hM' q5 (by omega) ?_, k⟩
    rcases q7 with q7 | ⟨g, o', cs, p1, p2, p3, p4, p5, p6⟩
    · exact .inl q7
    · exact .inr ⟨g, o', p1, by rw [p1]; simp⟩
  by_cases hroom : n + m ≤ c
  · by_cases hc0 : c = 0
    · have hm0 : m = 0 := by omega
      subst hm0
      have hnews0 : news = [] := List.eq_nil_of_length_eq_zero (by omega)
      subst hnews0
      have hrun := run_append_none (P := P) (ty := ty) (t1 := t1) (t2 := t2) hu1 hu2 hz (w := w) (b := b) (n := n) (c := c) rfl (by simpa using hnews) hnc
      exact fin w b c 0 rfl rfl rfl (fun _ _ _ => rfl) hroom hcapmax (.inl hc0) hrun
    · rcases hcase with hc1 | ⟨g, o', rfl, rfl⟩
      · exact absurd hc1 hc0
      · rcases hb6 with hb6 | ⟨g', o2, cs, e1, h7, hg, h9, hC⟩
        · omega
        · cases e1
          have hcc : (n + m) * sz P e ≤ c * sz P e := Nat.mul_le_mul_right _ hroom
          have hoc' : off * sz P e + c * sz P e ≤ cap * sz P e := by rw [← Nat.add_mul]; exact Nat.mul_le_mul_right _ hoc
          have hfitn := hcc
          rw [Nat.add_mul] at hfitn
          have hrun := run_append_in (P := P) (ty := ty) (t1 := t1) (t2 := t2) hu1 hu2 hz (w := w) (n := n) (c := c) rfl hnews hroom (o := o' + off * sz P e) hg hnlen (by omega) hone
          generalize hcs' : (cs.toList.take (o' + off * sz P e + n * sz P e) ++ news ++ cs.toList.drop (o' + off * sz P e + n * sz P e + news.length)).toArray = cs' at hrun
          have hsz' : cs'.size = cs.size := by rw [← hcs']; simp; omega
          have hCs : VRC F M sub cs (o' + off * sz P e) := by
            intro j av hj
            rw [← hsub, List.getElem?_take] at hj
            split at hj
            · rw [List.getElem?_drop] at hj
              obtain ⟨p, cv, q, s⟩ := hC _ _ hj
              exact ⟨p, cv, by rw [Nat.add_assoc]; exact q, s⟩
            · cases hj
          have hC' : VRC F M (sub ++ new) cs' (o' + off * sz P e) := by
            have h0 : VRC F M (sub ++ new) (cs.toList.take (o' + off * sz P e + n * sz P e) ++ news ++ cs.toList.drop (o' + off * sz P e + n * sz P e + news.length)).toArray (o' + off * sz P e) := by
              intro j av hj
              rw [List.getElem?_append] at hj
              have htk : (cs.toList.take (o' + off * sz P e + n * sz P e)).length = o' + off * sz P e + n * sz P e := by simp; omega
              by_cases hjl : j < sub.length
              · rw [if_pos hjl] at hj
                obtain ⟨p, cv, q, s⟩ := hCs j av hj
                refine ⟨p, cv, ?_, s⟩
                simp only [List.getElem?_toArray, List.append_assoc]
                rw [List.getElem?_append_left (by omega), List.getElem?_take, if_pos (by omega)]
                simpa using q
              · rw [if_neg hjl] at hj
                obtain ⟨cv, q, s⟩ := hvn.get hj
                have hjn : j - sub.length < news.length := (List.getElem?_eq_some_iff.1 q).1
                refine ⟨h1n _ _ hj, cv, ?_, s⟩
                simp only [List.getElem?_toArray, List.append_assoc]
                rw [List.getElem?_append_right (by omega), htk, List.getElem?_append_left (by omega), ← q]
                congr 1; omega
            rw [hcs'] at h0; exact h0
          exact fin (w.setRow g cs') _ c 0 rfl rfl rfl (fun j hj hno => setRow_other w g j cs' (fun e0 => by subst e0; exact hno _ hH ⟨o', cap, sz P e, hM, fun _ => by omega⟩)) hroom hcapmax
            (.inr ⟨g, o' + off * sz P e, cs', rfl, h7, setRow_heap w g cs cs' e (0, 0) hg, by omega, hC', .inr ⟨_, hH, o', cap, sz P e, hM, fun _ => by omega⟩⟩) hrun
  · have hgr : c < n + m := by omega
    have hrun := run_append_out (P := P) (ty := ty) (t1 := t1) (t2 := t2) hu1 hu2 hi hzz (w := w) (b := b) (n := n) (c := c) rfl (by rw [hisz]; exact hnews) (by rw [hisz]; exact holds) hgr h63 (by rw [hiby]; exact hby)
    have hge := grownCap_ge w (n + m) c e
    have hcm := grownCap_le_maxLen w (n + m) c e (by unfold maxLen; omega)
    generalize hcp : grownCap w (n + m) c e = cp at hrun hge hcm
    have hC' := VRC_row hvo hvn h1o h1n (Builtin.zeroCells z.cells (cp - (n + m)))
    generalize hcs' : (olds.toArray ++ news.toArray ++ Builtin.zeroCells z.cells (cp - (n + m))) = cs' at hrun hC'
    have hsz' : cs'.size = cp * sz P e := by
      rw [← hcs']
      simp only [Array.size_append, List.size_toArray, size_zeroCells, hzc, ← hvo.1, ← hvn.1, hlo, hln, ← Nat.add_mul]
      congr 1; omega
    exact fin (w.drew.alloc (.cells cs' e)) _ cp 0 rfl rfl rfl (fun j hj _ => heap_alloc_old w.drew _ j hj) hge hcm
      (.inr ⟨w.heap.size, 0, cs', rfl, r.F_none (Nat.le_refl _), heap_alloc_new w.drew _, by omega, hC', .inl (Nat.le_refl _)⟩) hrun

theorem append_clip {w : World} {F : Ft} {M : Mt} {H : Heap} {t1 t2 ty e e2 : TypeId} {i : TypeInfo} {z : Value} {m c2 : Nat} {b2 : Option Addr} {new : List AV} {news : List Value} {K : AV → Heap → Prop}
    (r : Rel w0 w F M H) (hu1 : P.underlying t1 = some (.slice e)) (hu2 : P.underlying t2 = some (.slice e2)) (hz : 0 < sz P e) (hi : P.info? e = some i) (hzz : i.zero = some z) (hzc : z.cells.size = sz P e)
    (hisz : i.size = sz P e) (hiby : i.bytes = byt P e) (hvn : VRL F M new news) (h1n : ∀ (i : Nat) (y : AV), new[i]? = some y → y.one = true) (hln : new.length = m * sz P e)
    (hnews : ∀ w' : World, w'.heap = w.heap → (Builtin.firstCells (sz P e) m (.slice b2 m c2)).run P w' = .ok news.toArray w')
    {sv : AV} {n : Nat} {old : List AV} {cv : Value} (hs : VR F M sv cv) (hln' : slLen sv = some n) (hco : slCells H (sz P e) sv = some old) (hnsl : ∀ cells k, sv ≠ .sl cells k) (hnref : ∀ r off n top, sv ≠ .ref r off n top) (hm0 : m = 0 → n = 0)
    (hby : (n + m) * byt P e ≤ 140737488355328) (h63 : n + m ≤ 4611686018427387904)
    (k : ∀ r', H r' = none → K (.ref r' 0 (n + m) (n + m)) (upd H r' (some (.arr (sz P e) e (old ++ new) (n + m))))) : AppRes P w0 w F M t1 t2 ty cv (.slice b2 m c2) K := by
  have hnlen : news.length = m * sz P e := by rw [← hvn.1, hln]
  have hone := one_all hvn h1n
  obtain ⟨b, c, hcv1, hnc, olds, hvo, h1o, hlo, holds, _⟩ := src_ok r hs hln' hco
  have hcn : c = n := by
    unfold slLen at hln'
    split at hln' <;> try (cases hln'; done)
    · exact absurd rfl (hnsl _ _)
    · cases hln'; obtain ⟨_, e1, _⟩ := hs.csl_inv; rw [hcv1] at e1; cases e1; rfl
    · exact absurd rfl (hnref _ _ _ _)
    · cases hln'; obtain ⟨_, _, _, _, e1, _⟩ := hs.cref_inv; rw [hcv1] at e1; cases e1; rfl
    · cases hln'; have e1 := hs.sc_inv; rw [hcv1] at e1; cases e1; rfl
  subst hcn
  subst hcv1
  by_cases hm : m = 0
  · subst hm
    have hn0 := hm0 rfl
    subst hn0
    have hnews0 : news = [] := List.eq_nil_of_length_eq_zero (by omega)
    subst hnews0
    have hrun := run_append_none (P := P) (ty := ty) (t1 := t1) (t2 := t2) hu1 hu2 hz (w := w) (b := b) (n := 0) (c := 0) rfl (by simpa using hnews) (Nat.le_refl _)
    have ho0 : old = [] := List.eq_nil_of_length_eq_zero (by omega)
    have hn0 : new = [] := List.eq_nil_of_length_eq_zero (by omega)
    subst ho0 hn0
    obtain ⟨rr, M', hr, hxx, hrel, hM'⟩ := r.newArr0 (sz P e) e hz b
    exact ⟨_, _, _, _, F, M', hrun, hxx, hrel, .ref hM' (Nat.le_refl _) (Nat.le_refl _) (.inl rfl), k rr hr⟩
  · have hgr : c < c + m := by omega
    have hrun := run_append_out (P := P) (ty := ty) (t1 := t1) (t2 := t2) hu1 hu2 hi hzz (w := w) (b := b) (n := c) (c := c) rfl (by rw [hisz]; exact hnews) (by rw [hisz]; exact holds) hgr h63 (by rw [hiby]; exact hby)
    have hge := grownCap_ge w (c + m) c e
    have hcm := grownCap_le_maxLen w (c + m) c e (by unfold maxLen; omega)
    generalize hcp : grownCap w (c + m) c e = cp at hrun hge hcm
    have hC' := VRC_row hvo hvn h1o h1n (Builtin.zeroCells z.cells (cp - (c + m)))
    generalize hcs' : (olds.toArray ++ news.toArray ++ Builtin.zeroCells z.cells (cp - (c + m))) = cs' at hrun hC'
    have hsz' : cs'.size = cp * sz P e := by
      rw [← hcs']
      simp only [Array.size_append, List.size_toArray, size_zeroCells, hzc, ← hvo.1, ← hvn.1, hlo, hln, ← Nat.add_mul]
      congr 1; omega
    obtain ⟨rr, M', hr, hxx, hrel, hM'⟩ := r.drew.newArr (sz P e) e (old ++ new) (c + m) cp cs' hC' (by rw [List.length_append, hlo, hln, Nat.add_mul]) hz hge hcm (by omega)
    exact ⟨_, _, _, _, F, M', hrun, hxx, hrel, .ref hM' hge (by omega) (.inr ⟨w.heap.size, 0, rfl, by simp⟩), k rr hr⟩

theorem ok_append {o : Oper} {env : Env} {H : Heap} {K : Env → Heap → Prop} {s x : Operand} {t1 t2 : TypeId} (ho : o.op = .call { callee := .builtin .append, args := #[s, x], argTypes := #[t1, t2] })
    (h : appendK P H t1 t2 (evO env s) (evO env x) (fun v H' => putK nt o.dst v env (fun env' => K env' H'))) : OpOK P w0 nt o env H K := by
  refine op_heap ?_
  intro w F M a r er
  have hs := er.ev s
  have hx := er.ev x
  have fin : AppRes P w0 w F M t1 t2 o.type (a.eval s) (a.eval x) (fun v H' => putK nt o.dst v env (fun env' => K env' H')) → ∃ cv w' v H' F' M', (execOp a.eval o).run P w = .ok (.value cv) w' ∧ Ext F F' M M' ∧ Rel w0 w' F' M' H' ∧ VR F' M' v cv ∧
      putK nt o.dst v env (fun env' => K env' H') := by
    rintro ⟨cv, w', v, H', F', M', hr, q⟩
    exact ⟨cv, w', v, H', F', M', by simp [execOp, ho, resolve, invoke, builtin, hr], q⟩
  refine fin ?_
  clear fin ho
  revert h hs hx
  generalize evO env s = sv
  generalize evO env x = xv
  generalize a.eval s = cs
  generalize a.eval x = cx
  generalize (fun v H' => putK nt o.dst v env (fun env' => K env' H')) = K'
  intro h hs hx
  unfold appendK at h
  split at h <;> try exact h.elim
  rename_i e e2 he1 he2
  have hu1 := slE_eq he1
  have hu2 := slE_eq he2
  obtain ⟨hz, hzer, h⟩ := h
  obtain ⟨zs, hzs, hzl⟩ := Option.map_eq_some_iff.1 hzer
  obtain ⟨i, z, hi, hzz, hcs⟩ := zer_eq hzs
  obtain ⟨i', hi', hisz, hiby⟩ := sz_info hz
  rw [hi] at hi'; cases hi'
  have hzc : z.cells.size = sz P e := by rw [← hzl, ← hcs]; simp
  split at h <;> try exact h.elim
  rename_i m new hl hc
  obtain ⟨b2, c2, rfl, hm2, news, hvn, h1n, hln, hnews, _⟩ := src_ok r hx hl hc
  split at h
  · rename_i rr off n top
    obtain ⟨hby, h63, h⟩ := h
    split at h <;> try exact h.elim
    rename_i es e' cells n' hH
    obtain ⟨h1, h2, h3, hot, h5⟩ := h
    subst h1 h2 h3
    split at h5
    · rename_i hwhole
      obtain ⟨h1, h2⟩ := hwhole
      subst h1 h2
      exact append_whole r hu1 hu2 hz hi hzz hzc hisz hiby hvn h1n hln hnews hs hH hby h63 h5
    · exact append_part r hu1 hu2 hz hi hzz hzc hisz hiby hvn h1n hln hnews hs hH hot hby h63 h5
  · rename_i hnref
    split at h <;> try exact h.elim
    rename_i n old hln' hco
    obtain ⟨hnsl, hm0, hby, h63, k⟩ := h
    exact append_clip r hu1 hu2 hz hi hzz hzc hisz hiby hvn h1n hln hnews hs hln' hco hnsl hnref hm0 hby h63 k
end
end Go.Am
