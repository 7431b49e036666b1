/- The abstract machine, maps: from numbers to numbers. -/
import Derived.Test.YtbcgjjkchmgeoaaAm9
import Derived.MapKept
namespace Go.Am
open Go Go.MapKept
set_option linter.unusedVariables false
set_option linter.unusedSimpArgs false

/-- What a key has. -/
def kvGet (kv : List (Int × Int)) (n : Int) : Option Int :=
  match kv with
  | [] => none
  | p :: r => if n = p.1 then some p.2 else kvGet r n
def kvSet (kv : List (Int × Int)) (n x : Int) : List (Int × Int) :=
  match kv with
  | [] => [(n, x)]
  | p :: r => if n = p.1 then (n, x) :: r else p :: kvSet r n x

def mapIB (P : Program) (t : TypeId) : Bool :=
  match P.underlying t with
  | some (.map k e) => (match P.underlying k with | some (.int .i64) => true | _ => false) && (match (P.info? e).bind (fun i => i.zero) with | some (.int .i64 n) => decide (n = 0) | _ => false)
  | _ => false

theorem mapIB_spec {P : Program} {t : TypeId} (h : mapIB P t = true) : ∃ k e i, P.underlying t = some (.map k e) ∧ P.underlying k = some (.int .i64) ∧ P.info? e = some i ∧ i.zero = some (.int .i64 0) := by
  unfold mapIB at h
  split at h
  · rename_i k e hu
    simp only [Bool.and_eq_true] at h
    obtain ⟨h1, h2⟩ := h
    split at h1
    · rename_i hk
      split at h2
      · rename_i n hz
        simp only [decide_eq_true_eq] at h2
        subst h2
        cases hi : P.info? e with
        | none => rw [hi] at hz; cases hz
        | some i => rw [hi] at hz; exact ⟨k, e, i, hu, hk, hi, hz⟩
      · cases h2
    · cases h1
  · cases h

theorem find_rep (n : Int) : ∀ (kv : List (Int × Int)) (es : List MapEntry) (i : Nat), es.map (fun e => (e.key, e.val)) = kv.map (fun p => (Value.int .i64 p.1, Value.int .i64 p.2)) →
    (kvGet kv n = none ∧ Instr.findNow (.int .i64) (.int .i64 n) es i = some none ∧ ∀ x, kvSet kv n x = kv ++ [(n, x)]) ∨
    (∃ j v, kvGet kv n = some v ∧ Instr.findNow (.int .i64) (.int .i64 n) es i = some (some (i + j, .int .i64 v)) ∧ kv[j]? = some (n, v) ∧ ∀ x, kvSet kv n x = kv.set j (n, x))
  | [], [], i, _ => .inl ⟨rfl, rfl, fun _ => rfl⟩
  | [], e :: es, i, h => by simp at h
  | p :: kv, [], i, h => by simp at h
  | p :: kv, e :: es, i, h => by
    simp only [List.map_cons, List.cons.injEq, Prod.mk.injEq] at h
    obtain ⟨⟨hk, hv⟩, hr⟩ := h
    unfold Instr.findNow
    rw [hk, hv]
    by_cases hn : n = p.1
    · subst hn
      right
      refine ⟨0, p.2, by simp [kvGet], ?_, by simp, fun x => by simp [kvSet]⟩
      simp [Instr.sameNow]
    · have : (n == p.1) = false := by simpa using hn
      simp only [Instr.sameNow, if_true, this]
      rcases find_rep n kv es (i + 1) hr with ⟨h1, h2, h3⟩ | ⟨j, v, h1, h2, h3, h4⟩
      · exact .inl ⟨by simp [kvGet, hn, h1], h2, fun x => by simp [kvSet, hn, h3]⟩
      · exact .inr ⟨j + 1, v, by simp [kvGet, hn, h1], by rw [h2, Nat.add_assoc, Nat.add_comm 1 j], by simpa using h3, fun x => by simp [kvSet, hn, h4]⟩

theorem kvSet_nodup {kv : List (Int × Int)} {n x : Int} (h : (kv.map (·.1)).Nodup) : ((kvSet kv n x).map (·.1)).Nodup := by
  have hk : ∀ (kv : List (Int × Int)) (y : Int), y ∈ (kvSet kv n x).map (·.1) → y = n ∨ y ∈ kv.map (·.1) := by
    intro kv
    induction kv with
    | nil => intro y hy; simp [kvSet] at hy; exact .inl hy
    | cons p r ih =>
      intro y hy
      simp only [kvSet] at hy
      split at hy
      · rename_i e; simp only [List.map_cons, List.mem_cons] at hy ⊢
        rcases hy with rfl | hy
        · exact .inl rfl
        · exact .inr (.inr hy)
      · simp only [List.map_cons, List.mem_cons] at hy ⊢
        rcases hy with rfl | hy
        · exact .inr (.inl rfl)
        · rcases ih y hy with h | h
          · exact .inl h
          · exact .inr (.inr h)
  induction kv with
  | nil => simp [kvSet]
  | cons p r ih =>
    simp only [List.map_cons, List.nodup_cons] at h
    simp only [kvSet]
    split
    · rename_i e; subst e; simp only [List.map_cons, List.nodup_cons]; exact h
    · rename_i e
      simp only [List.map_cons, List.nodup_cons]
      refine ⟨fun hm => ?_, ih h.2⟩
      rcases hk r p.1 hm with h' | h'
      · exact e h'.symm
      · exact h.1 h'

section
variable {P : Program} {w0 : World} {nt : Nat}

def lookupK (P : Program) (H : Heap) (t : TypeId) (x i : AV) (ok : Bool) (K : AV → Prop) : Prop :=
  match x, i with
  | .mp r, .sc (.int k n) => k = .i64 ∧ mapIB P t = true ∧ match H r with
    | some (.mapI kv) => K (if ok then .tup [I ((kvGet kv n).getD 0), B (kvGet kv n).isSome] else I ((kvGet kv n).getD 0))
    | _ => False
  | _, _ => False

theorem mp_inv {F : Ft} {M : Mt} {r : Nat} {cv : Value} (h : VR F M (.mp r) cv) : ∃ g o cap es, M r 0 = some (some ⟨g, o, none⟩, cap, es) ∧ cv = .map (some g) := by
  cases h with
  | mp hM => exact ⟨_, _, _, _, hM, rfl⟩

theorem ok_lookup {o : Oper} {env : Env} {H : Heap} {K : Env → Heap → Prop} {t : TypeId} {x i : Operand} {c : Bool} (ho : o.op = .lookup t x i c)
    (h : lookupK P H t (evO env x) (evO env i) c (fun v => putK nt o.dst v env (fun env' => K env' H))) : OpOK P w0 nt o env H K := by
  refine op_heap fun w F M a r er => ?_
  have hx := er.ev x
  have hi := er.ev i
  revert h hx hi
  generalize evO env x = av
  generalize evO env i = bv
  intro h hx hi
  unfold lookupK at h
  split at h
  · rename_i rr k n
    obtain ⟨rfl, hm, h⟩ := h
    split at h
    · rename_i kv hH
      obtain ⟨g, es, clock, hM, hFg, hg, hrep, hnd⟩ := r.blk rr _ hH
      obtain ⟨g', oo, cap, es', hM', hcv⟩ := mp_inv hx
      rw [hM] at hM'; cases hM'
      obtain ⟨kt, et, inf, hu, hk, hinf, hz⟩ := mapIB_spec hm
      have hiv := hi.sc_inv
      have hik : IsKey (.int .i64) (Value.int .i64 n) := by simp [IsKey]
      have fin : ∀ (v : Int) (b : Bool), VR F M (if c then .tup [I v, B b] else I v) (if c then .tuple #[.int .i64 v, .bool b] else .int .i64 v) := by
        intro v b
        cases c with
        | false => exact .sc _
        | true =>
          refine .tup (fun i => (#[Value.int .i64 v, .bool b][i]?).getD undef) (by simp) ?_ ?_
          · intro i av hi
            match i, hi with
            | 0, hi => simp
            | 1, hi => simp
          · intro i av hi
            match i, hi with
            | 0, hi => simp at hi; subst hi; exact .sc _
            | 1, hi => simp at hi; subst hi; exact .sc _
      rcases find_rep n kv es.toList 0 hrep with ⟨h1, h2, _⟩ | ⟨j, v, h1, h2, h3, _⟩
      · rw [h1] at h
        refine ⟨if c then .tuple #[.int .i64 0, .bool false] else .int .i64 0, w, _, H, F, M, ?_, Ext.refl _ _, r, fin 0 false, h⟩
        simp [execOp, ho, hcv, hiv, Instr.lookup, run_underlying hu, MapKept.run_getObj_map hg, MapKept.run_checkKey hk hik, MapKept.run_findKey hk h2, zeroValue, typeInfo, hinf, hz, Result.andThen]
      · rw [h1] at h
        refine ⟨if c then .tuple #[.int .i64 v, .bool true] else .int .i64 v, w, _, H, F, M, ?_, Ext.refl _ _, r, fin v true, h⟩
        simp [execOp, ho, hcv, hiv, Instr.lookup, run_underlying hu, MapKept.run_getObj_map hg, MapKept.run_checkKey hk hik, MapKept.run_findKey hk h2, Result.andThen]
    · exact h.elim
  · exact h.elim

theorem Rel.newMap {w : World} {F : Ft} {M : Mt} {H : Heap} (h : Rel w0 w F M H) :
    ∃ r M', H r = none ∧ Ext F F M M' ∧ Rel w0 (w.alloc (.map #[] 0)) F M' (upd H r (some (.mapI []))) ∧ M' r 0 = some (some ⟨w.heap.size, 0, none⟩, 1, 1) := by
  obtain ⟨N, hN⟩ := h.fresh
  have hH := (hN N (Nat.le_refl _)).1
  have hMN := (hN N (Nat.le_refl _)).2
  let M' : Mt := fun s t => if s = N ∧ t = 0 then some (some ⟨w.heap.size, 0, none⟩, 1, 1) else M s t
  have hM' : M' N 0 = some (some ⟨w.heap.size, 0, none⟩, 1, 1) := by simp [M']
  have hnew : (w.alloc (.map #[] 0)).heap[w.heap.size]? = some (.map #[] 0) := heap_alloc_new w _
  have st := h.step (w' := w.alloc (.map #[] 0)) (M' := M') N N (.mapI []) rfl rfl rfl
    (fun b hb _ => heap_alloc_old w _ b hb) (fun s t => by
      simp only [M', Blk.gen]
      by_cases e : s = N ∧ t = 0
      · exact .inr e
      · simp [e]) (fun x hx' => by simp only [Blk.gen] at hx'; rw [hMN] at hx'; cases hx') (.inl rfl)
    ⟨w.heap.size, #[], 0, hM', h.F_none (Nat.le_refl _), hnew, by simp [MapRep], by simp⟩
    (fun g ⟨o, cap, es, hm, _⟩ => by simp only [Blk.gen] at hm; rw [hM'] at hm; cases hm; exact .inl (Nat.le_refl _))
    (fun t _ => hMN t)
  rw [upd_none_upd] at st
  exact ⟨N, M', hH, st.1, st.2, hM'⟩

def makeMapK (H : Heap) (c : Option Operand) (K : AV → Heap → Prop) : Prop :=
  c = none ∧ ∀ r, H r = none → K (.mp r) (upd H r (some (.mapI [])))

theorem ok_makeMap {o : Oper} {env : Env} {H : Heap} {K : Env → Heap → Prop} {t : TypeId} {c : Option Operand} (ho : o.op = .makeMap t c)
    (h : makeMapK H c (fun v H' => putK nt o.dst v env (fun env' => K env' H'))) : OpOK P w0 nt o env H K := by
  refine op_heap fun w F M a r er => ?_
  obtain ⟨rfl, k⟩ := h
  obtain ⟨rr, M', hr, hx, hrel, hM'⟩ := r.newMap
  refine ⟨_, _, .mp rr, _, F, M', ?_, hx, hrel, .mp hM', k rr hr⟩
  simp [execOp, ho]
  rfl

def mapUpdateK (P : Program) (H : Heap) (t : TypeId) (m k v : AV) (K : Heap → Prop) : Prop :=
  match m, k, v with
  | .mp r, .sc (.int kk n), .sc (.int vk x) => kk = .i64 ∧ vk = .i64 ∧ mapIB P t = true ∧ match H r with
    | some (.mapI kv) => K (upd H r (some (.mapI (kvSet kv n x))))
    | _ => False
  | _, _, _ => False

theorem ok_mapUpdate {o : Oper} {env : Env} {H : Heap} {K : Env → Heap → Prop} {t : TypeId} {x i y : Operand} (ho : o.op = .mapUpdate t x i y)
    (h : mapUpdateK P H t (evO env x) (evO env i) (evO env y) (fun H' => putK nt o.dst (.sc undef) env (fun env' => K env' H'))) : OpOK P w0 nt o env H K := by
  refine op_heap_skip fun w F M a r er => ?_
  have hx := er.ev x
  have hi := er.ev i
  have hy := er.ev y
  revert h hx hi hy
  generalize evO env x = av
  generalize evO env i = bv
  generalize evO env y = dv
  intro h hx hi hy
  unfold mapUpdateK at h
  split at h
  · rename_i rr k n vk xx
    obtain ⟨rfl, rfl, hm, h⟩ := h
    split at h
    · rename_i kv hH
      have hB := r.blk rr _ hH
      obtain ⟨g, es, clock, hM, hFg, hg, hrep, hnd⟩ := hB
      obtain ⟨g', oo, cap, es', hM', hcv⟩ := mp_inv hx
      rw [hM] at hM'; cases hM'
      obtain ⟨kt, et, inf, hu, hk, hinf, hz⟩ := mapIB_spec hm
      have hiv := hi.sc_inv
      have hyv := hy.sc_inv
      have hik : IsKey (.int .i64) (Value.int .i64 n) := by simp [IsKey]
      have hown : Owns M rr (.mapI kv) g := ⟨0, 1, 1, hM, fun h => by cases h⟩
      have step : ∀ (es' : Array MapEntry) (clock' : Nat), MapRep (kvSet kv n xx) es' → Rel w0 { w with heap := w.heap.setIfInBounds g (.map es' clock') } F M (upd H rr (some (.mapI (kvSet kv n xx)))) := by
        intro es' clock' hrep'
        have hh := heap_set (o' := .map es' clock') hg
        have st := r.step (w' := { w with heap := w.heap.setIfInBounds g (.map es' clock') }) (M' := M) rr rr (.mapI (kvSet kv n xx)) rfl rfl rfl
          (fun b hb hno => hh.2 b (fun e => by subst e; exact hno _ hH hown)) (fun s t => .inl rfl) (fun x hx => hx) (.inl rfl)
          ⟨g, es', clock', hM, hFg, hh.1, hrep', kvSet_nodup hnd⟩
          (fun g2 ⟨o, cap, es, hm2, _⟩ => by simp only [Blk.gen] at hm2; exact .inr ⟨_, hH, ⟨o, cap, es, hm2, fun h => by cases h⟩⟩)
          (fun t ht => r.gens rr _ hH t ht)
        rw [upd_none_upd] at st
        exact st.2
      rcases find_rep n kv es.toList 0 hrep with ⟨h1, h2, h3⟩ | ⟨j, v, h1, h2, h3, h4⟩
      · refine ⟨_, _, F, M, ?_, Ext.refl _ _, step (es.push { key := .int .i64 n, val := .int .i64 xx, born := clock }) (clock + 1) ?_, h⟩
        · simp [execOp, ho, hcv, hiv, hyv, Instr.mapUpdate, run_underlying hu, MapKept.run_getObj_map hg, MapKept.run_checkKey hk hik, MapKept.run_findKey hk h2, MapKept.run_setObj_map _ hg, Result.andThen]
        · rw [h3]
          unfold MapRep at hrep ⊢
          simp [hrep]
      · refine ⟨_, _, F, M, ?_, Ext.refl _ _, step (es.modify j fun e => { e with key := .int .i64 n, val := .int .i64 xx }) clock ?_, h⟩
        · have hke : ((es[j]?).map (·.key)).getD (.int .i64 n) = .int .i64 n := by
            unfold MapRep at hrep
            have := congrArg (fun l => l[j]?) hrep
            simp only [List.getElem?_map, h3, Option.map_some] at this
            cases hj : es[j]? with
            | none => rfl
            | some e =>
              rw [Array.getElem?_toList, hj] at this
              simp at this
              simp [this.1]
          simp only [Nat.zero_add] at h2
          simp only [execOp, ho, hcv, hiv, hyv, Instr.mapUpdate, Sem.run_bind, run_underlying hu, MapKept.run_getObj_map hg, MapKept.run_checkKey hk hik, MapKept.run_findKey hk h2, Result.andThen, hke, MapKept.run_keyThatStays hik, MapKept.run_setObj_map _ hg]
          rfl
        · rw [h4]
          unfold MapRep at hrep ⊢
          have hjl : j < kv.length := (List.getElem?_eq_some_iff.1 h3).1
          have hlen : es.size = kv.length := by have := congrArg List.length hrep; simpa using this
          refine List.ext_getElem? fun q => ?_
          have hq := congrArg (fun l => l[q]?) hrep
          simp only [List.getElem?_map] at hq ⊢
          rw [Array.getElem?_toList] at hq ⊢
          rw [Array.getElem?_modify, List.getElem?_set]
          by_cases e : j = q
          · subst e
            simp [hjl, hlen, hjl]
          · rw [if_neg e, if_neg e]; exact hq
    · exact h.elim
  · exact h.elim
end
end Go.Am
