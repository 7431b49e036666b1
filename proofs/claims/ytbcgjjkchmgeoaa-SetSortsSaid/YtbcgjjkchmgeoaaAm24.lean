/- The abstract machine, part 24: the library's sort, by the kit's contract, on an array of the heap. -/
import Derived.Test.YtbcgjjkchmgeoaaAm23
import Derived.Sort.Row
import Derived.Sort.Grow
namespace Go.Am
open Go
set_option linter.unusedVariables false

section
variable {P : Program} {w0 : World} {nt : Nat}

theorem BlkR.grow {F : Ft} {M : Mt} {w : World} {r : Nat} (os : Array Obj) : ∀ {k : Blk}, BlkR F M w r k → BlkR F M (Sort.grow w os) r k := by
  have hh : ∀ (g : Nat) (o : Obj), w.heap[g]? = some o → (Sort.grow w os).heap[g]? = some o := by
    intro g o h
    have hl := (Array.getElem?_eq_some_iff.1 h).1
    show (w.heap ++ os)[g]? = some o
    rw [Array.getElem?_append_left hl]; exact h
  intro k h
  cases k with
  | arr es e cells n =>
    obtain ⟨h1, h2, a, cap, h3, h4, h5, h6⟩ := h
    refine ⟨h1, h2, a, cap, h3, h4, h5, ?_⟩
    rcases h6 with h6 | ⟨g, o, cs, a1, a2, a3, a4⟩
    · exact .inl h6
    · exact .inr ⟨g, o, cs, a1, a2, hh _ _ a3, a4⟩
  | box cells =>
    obtain ⟨g, cs, e, a1, a2, a3, a4⟩ := h
    exact ⟨g, cs, e, a1, a2, hh _ _ a3, a4⟩
  | mapI kv =>
    obtain ⟨g, es, c, a1, a2, a3, a4⟩ := h
    exact ⟨g, es, c, a1, a2, hh _ _ a3, a4⟩

theorem Rel.grow {w : World} {F : Ft} {M : Mt} {H : Heap} (h : Rel w0 w F M H) (os : Array Obj) : Rel w0 (Sort.grow w os) F M H := by
  refine ⟨h.os, h.tape, h.output, h.F0, fun b o hb => ?_, fun r k hr => (h.blk r k hr).grow os, h.disj, h.gens, h.fresh⟩
  have := h.hF b o hb
  have hl := (Array.getElem?_eq_some_iff.1 this).1
  show (w.heap ++ os)[b]? = some o
  rw [Array.getElem?_append_left hl]; exact this

theorem Rel.ahead {w : World} {F : Ft} {M : Mt} {H : Heap} (h : Rel w0 w F M H) (n : Nat) : Rel w0 (Sort.ahead w n) F M H :=
  ⟨h.os, h.tape, h.output, h.F0, h.hF, fun r k x => by
    have := h.blk r k x
    cases k <;> exact this, h.disj, h.gens, h.fresh⟩

theorem putRow_eq {α : Type} [Inhabited α] {enc : α → Value} {w : World} {g off : Nat} {d : Array α} {cs : Array Value} {e : TypeId} {fz : Nat × Nat} (hg : w.heap[g]? = some (.cells cs e fz)) :
    Sort.putRow enc w g off d = w.setRow g (Sort.putCells enc off d cs) := by
  unfold Sort.putRow Sort.mapBlock World.setRow
  congr 1
  apply Array.ext_getElem?
  intro k
  simp only [Array.getElem?_modify]
  by_cases hk : g = k
  · subst hk
    simp only [if_true, hg]
    rfl
  · simp [hk]

/-- The sorted list. -/
def sortI (l : List Int) : List Int := l.mergeSort fun x y => decide (x ≤ y)

/-- What the kit's contract says of slices.Sort. -/
def SortC (P : Program) (f : FuncId) : Prop := ∀ (blk off cap : Nat) (zs : List Int) (w : World), Sort.Holds (Value.int .i64) w blk off zs.toArray → blk < w.heap.size → zs.length < 4611686018427387904 →
    Calls P f #[.slice (some ⟨blk, off, none⟩) zs.length cap] w fun e w' =>
      e = .returned (.tuple #[]) ∧ ∃ n os, w' = Sort.grow (Sort.putRow (Value.int .i64) (Sort.ahead w n) blk off (zs.mergeSort fun x y => decide (x ≤ y)).toArray) os

theorem VRL.args1 {F : Ft} {M : Mt} {a : AV} {cargs : Array Value} (h : VRL F M [a] cargs.toList) : ∃ v, cargs = #[v] ∧ VR F M a v := by
  have hl : cargs.toList.length = 1 := h.1.symm
  match hc : cargs.toList, hl with
  | [v], _ =>
    refine ⟨v, Array.ext' hc, ?_⟩
    rw [hc] at h
    exact h.2 0 a v rfl rfl

theorem sort_acalls {f : FuncId} (hS : SortC P f) (hc : callable P f = true) {H : Heap} {r k top : Nat} {e : TypeId} {l : List Int} (hl : l.length = top) (hk : k ≤ top) (h0 : 0 < k) (hsz : top < 4611686018427387904)
    {K : AV → Heap → Prop} (hH : H r = some (.arr 1 e (l.map I) top)) (hK : K (.tup []) (upd H r (some (.arr 1 e ((sortI (l.take k) ++ l.drop k).map I) top)))) : ACalls P w0 f [.ref r 0 k top] H K := by
  refine ⟨hc, fun w F M cargs rel hv => ?_⟩
  obtain ⟨v, rfl, hvr⟩ := hv.args1
  obtain ⟨hcl, hes, a, cap, hM, hn, hmax, hz⟩ := rel.blk r _ hH
  cases hvr with
  | @ref _ _ _ _ cap' es' c a' b hM' hlc hcc hzz =>
    rw [hM] at hM'
    cases hM'
    have hcap : cap ≠ 0 := by omega
    rcases hz with hz | ⟨g, o, cs, ha, hFg, hg, hfit, hC⟩
    · exact absurd hz hcap
    subst ha
    rcases hzz with hzz | ⟨g', o', h1, h2⟩
    · omega
    cases h1
    subst h2
    have hglt := (Array.getElem?_eq_some_iff.1 hg).1
    have hcell : ∀ j, j < k → cs[o + j]? = some (.int .i64 ((l.take k).toArray[j]!)) := by
      intro j hj
      have hj2 : j < l.length := by omega
      obtain ⟨_, cv, q1, q2⟩ := hC j (I l[j]) (by simp [hj2])
      have := q2.sc_inv
      subst this
      rw [q1]
      congr 2
      rw [getElem!_pos _ j (by simp; omega)]
      simp
    have hHolds : Sort.Holds (Value.int .i64) w g (o + 0 * 1) (l.take k).toArray := by
      intro j hj
      have hj' : j < k := by simp at hj; omega
      have hce := hcell j hj'
      refine ⟨?_, ?_⟩
      · simp only [World.cell?, hg]
        simpa using hce
      · simp [World.frozen?, hg]
    have hlen : (l.take k).length = k := by simp; omega
    have hcall := hS g (o + 0 * 1) c (l.take k) w hHolds hglt (by omega)
    rw [hlen] at hcall
    refine hcall.mono ?_
    rintro ex w' ⟨rfl, n, os, rfl⟩
    have rel1 := rel.ahead n
    have hg1 : (Sort.ahead w n).heap[g]? = some (.cells cs e (0, 0)) := hg
    have hslen : (sortI (l.take k)).length = k := by rw [sortI, List.length_mergeSort, hlen]
    have hsz2 : (Sort.putCells (Value.int .i64) (o + 0 * 1) ((l.take k).mergeSort fun x y => decide (x ≤ y)).toArray cs).size = cs.size := by simp [Sort.putCells]
    have hown : Owns M r (.arr 1 e (l.map I) top) g := ⟨o, cap, 1, hM, fun _ => hcap⟩
    have hC' : VRC F M ((sortI (l.take k) ++ l.drop k).map I) (Sort.putCells (Value.int .i64) (o + 0 * 1) ((l.take k).mergeSort fun x y => decide (x ≤ y)).toArray cs) o := by
      intro i av hi
      rw [List.getElem?_map] at hi
      have hil : i < l.length := by
        cases hx : (sortI (l.take k) ++ l.drop k)[i]? with
        | none => rw [hx] at hi; cases hi
        | some x =>
          have := (List.getElem?_eq_some_iff.1 hx).1
          rw [List.length_append, hslen, List.length_drop] at this
          omega
      obtain ⟨_, cv, q1, q2⟩ := hC i (I l[i]) (by simp [hil])
      have := q2.sc_inv
      subst this
      have hput : (Sort.putCells (Value.int .i64) (o + 0 * 1) ((l.take k).mergeSort fun x y => decide (x ≤ y)).toArray cs)[o + i]? =
          some (if i < k then .int .i64 ((sortI (l.take k)).toArray[i]!) else .int .i64 l[i]) := by
        simp only [Sort.putCells, Array.getElem?_mapIdx, q1, Option.map_some]
        congr 1
        have hs : ((l.take k).mergeSort fun x y => decide (x ≤ y)).toArray.size = k := by
          rw [List.size_toArray]; exact hslen
        rw [hs]
        by_cases hik : i < k
        · rw [if_pos ⟨by omega, by omega⟩, if_pos hik]
          rw [show o + i - (o + 0 * 1) = i by omega]
          rfl
        · rw [if_neg (by omega), if_neg hik]
      by_cases hik : i < k
      · rw [List.getElem?_append_left (by omega)] at hi
        have hx : (sortI (l.take k))[i]? = some (sortI (l.take k))[i] := by rw [List.getElem?_eq_getElem (by omega)]
        rw [hx] at hi
        simp only [Option.map_some, Option.some.injEq] at hi
        subst hi
        refine ⟨rfl, _, hput, ?_⟩
        rw [if_pos hik]
        rw [getElem!_pos _ i (by rw [List.size_toArray]; omega)]
        exact .sc _
      · rw [List.getElem?_append_right (by omega), hslen] at hi
        have hx : (l.drop k)[i - k]? = some l[i] := by
          rw [List.getElem?_drop, show k + (i - k) = i by omega, List.getElem?_eq_getElem hil]
        rw [hx] at hi
        simp only [Option.map_some, Option.some.injEq] at hi
        subst hi
        refine ⟨rfl, _, hput, ?_⟩
        rw [if_neg hik]
        exact .sc _
    have hw := rel1.write (cells' := (sortI (l.take k) ++ l.drop k).map I) (cells := l.map I) (cs' := Sort.putCells (Value.int .i64) (o + 0 * 1) ((l.take k).mergeSort fun x y => decide (x ≤ y)).toArray cs)
      hH rfl hown hM hg1 (.inl ⟨1, e, rfl⟩) (by simp only [List.length_map, List.length_append, hslen, List.length_drop]; omega) hsz2 hC'
    rw [← putRow_eq hg1, setAt_arr hH] at hw
    exact ⟨.tup [], .tuple #[], _, F, M, rfl, Ext.refl _ _, hw.grow os, .tup (fun _ => undef) rfl (fun i av h => by simp at h) (fun i av h => by simp at h), hK⟩

theorem wks_ref0 {r off top : Nat} : Wks (.ref r off 0 top) (.sl [] 0) := by
  intro F M cv h
  cases h with
  | ref => exact .sl0
end
end Go.Am
