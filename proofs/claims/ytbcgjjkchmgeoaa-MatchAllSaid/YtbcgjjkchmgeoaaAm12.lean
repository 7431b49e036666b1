/- The abstract machine, part 12: two operations change places; whatever order is drawn. -/
import Derived.Test.YtbcgjjkchmgeoaaAm11
namespace Go.Am
open Go

section
variable {P : Program} {w0 : World} {nt : Nat}

theorem Det.mono {C : (AV → Prop) → Prop} (d : Det C) {K K' : AV → Prop} (h : C K) (hk : ∀ v, K v → K' v) : C K' := by
  obtain ⟨v, hv⟩ := d K h
  exact (hv K').2 (hk v ((hv K).1 h))

/-- The variables, and the maps, of a heap. -/
def boxes (H : Heap) : Heap := fun r => match H r with
  | some k => if k.isArr then none else some k
  | none => none

theorem boxes_sub (H : Heap) : Sub (boxes H) H := by
  intro r k h
  unfold boxes at h
  split at h
  · rename_i c e
    split at h
    · cases h
    · cases h; exact e
  · cases h

/-- No variable, and no map, has changed. -/
def KeepsBox (H H' : Heap) : Prop := ∀ r k, k.isArr = false → H r = some k → H' r = some k

theorem KeepsBox.refl (H : Heap) : KeepsBox H H := fun _ _ _ h => h
theorem KeepsBox.ofSub {H H' : Heap} (h : Sub H H') : KeepsBox H H' := fun r k _ e => h r k e
theorem KeepsBox.boxes {H H' : Heap} (h : KeepsBox H H') : Sub (boxes H) (boxes H') := by
  intro r k hk
  unfold Am.boxes at hk ⊢
  split at hk
  · rename_i c e
    split at hk
    · cases hk
    · rename_i ha
      cases hk
      have := h r _ (by simpa using ha) e
      rw [this]
      simp [ha]
  · cases hk
theorem KeepsBox.updA {H H' : Heap} (h : KeepsBox H H') {r es n : Nat} {e : TypeId} {cells : List AV} (hr : H r = some (.arr es e cells n)) (k : Option Blk) : KeepsBox H (upd H' r k) := by
  intro s c hc hs
  by_cases e : s = r
  · subst e; rw [hr] at hs; cases hs; cases hc
  · rw [upd_ne _ _ _ e]; exact h s c hc hs
theorem KeepsBox.updN {H H' : Heap} (h : KeepsBox H H') {r : Nat} (hr : H r = none) (k : Option Blk) : KeepsBox H (upd H' r k) := by
  intro s c hc hs
  by_cases e : s = r
  · subst e; rw [hr] at hs; cases hs
  · rw [upd_ne _ _ _ e]; exact h s c hc hs
theorem KeepsBox.fresh {H : Heap} {r : Nat} (hr : H r = none) (k : Option Blk) : KeepsBox H (Am.upd H r k) := (KeepsBox.refl H).updN hr k

theorem loadK_sub {H H' : Heap} (s : Sub H H') (t : TypeId) (a : AV) (K : AV → Prop) (h : loadK P H t a K) : loadK P H' t a K := by
  unfold loadK at h ⊢
  split at h
  · exact h
  · rename_i r top off
    split at h
    · rename_i cells hc
      obtain ⟨k, hk, hgen, hor⟩ := cellsAt_inv hc
      have hk' := s r k hk
      have : cellsAt H' r top = some cells := by
        unfold cellsAt
        rw [hk']
        rcases hor with ⟨es, e, rfl⟩ | rfl
        · simp
        · simp only [Blk.gen] at hgen; simp [← hgen]
      simp only [this]
      exact h
    · exact h.elim
  · exact h.elim

theorem sliceK_sub {H H' : Heap} (s : Sub H H') {x : AV} {es lo hi : Nat} {clip full : Bool} {K : AV → Prop} (h : sliceK H x es lo hi clip full K) : sliceK H' x es lo hi clip full K := by
  unfold sliceK at h ⊢
  split at h
  · exact h
  · exact h
  · obtain ⟨h1, h2, h⟩ := h
    refine ⟨h1, h2, ?_⟩
    split at h
    · rename_i e; simp only [s _ _ e]; exact h
    · exact h.elim
  · obtain ⟨h1, h2, h⟩ := h
    refine ⟨h1, h2, ?_⟩
    split at h
    · rename_i e; simp only [s _ _ e]; exact h
    · exact h.elim
  · exact h
  · exact h.elim

theorem opC_sub {H H' : Heap} (s : Sub H H') (ρ : Operand → AV) (op : Op) (K : AV → Prop) (h : opC P H ρ op K) : opC P H' ρ op K := by
  cases op with
  | load t x => exact loadK_sub s _ _ _ h
  | slice t x lo hi mx =>
    simp only [opC] at h ⊢
    unfold sliceOpK at h ⊢
    split at h
    · obtain ⟨h1, h⟩ := h
      refine ⟨h1, ?_⟩
      split at h
      · split at h
        · exact sliceK_sub s h
        · exact ⟨h.1, sliceK_sub s h.2⟩
        · exact ⟨h.1, sliceK_sub s h.2⟩
        · exact ⟨h.1, h.2.1, sliceK_sub s h.2.2⟩
        · exact ⟨h.1, h.2.1, sliceK_sub s h.2.2⟩
        · exact ⟨h.1, h.2.1, h.2.2.1, sliceK_sub s h.2.2.2⟩
        · exact h.elim
      · exact h.elim
    · exact h.elim
  | indexAddr t x i =>
    simp only [opC] at h ⊢
    unfold indexAddrK at h ⊢
    split at h
    · obtain ⟨h0, h⟩ := h
      refine ⟨h0, ?_⟩
      split at h
      · obtain ⟨h1, h⟩ := h
        refine ⟨h1, ?_⟩
        split at h
        · exact h
        · exact h
        · refine ⟨h.1, ?_⟩
          have h2 := h.2
          split at h2
          · rename_i e; simp only [s _ _ e]; exact h2
          · exact h2.elim
        · refine ⟨h.1, ?_⟩
          have h2 := h.2
          split at h2
          · rename_i e; simp only [s _ _ e]; exact h2
          · exact h2.elim
        · exact h.elim
      · exact h
    · exact h.elim
  | buildSlice t len parts =>
    simp only [opC] at h ⊢
    unfold buildSliceK at h ⊢
    exact h
  | lookup t x i c =>
    simp only [opC] at h ⊢
    unfold lookupK at h ⊢
    split at h
    · refine ⟨h.1, h.2.1, ?_⟩
      have h2 := h.2.2
      split at h2
      · rename_i e; simp only [s _ _ e]; exact h2
      · exact h2.elim
    · exact h.elim
  | _ => exact h

/-- Whether an operation on slots looks at the heap. -/
def heapy : Op → Bool
  | .load .. | .slice .. | .indexAddr .. | .lookup .. => true
  | _ => false

theorem opC_free {H H' : Heap} (ρ : Operand → AV) (op : Op) (hf : heapy op = false) (K : AV → Prop) (h : opC P H ρ op K) : opC P H' ρ op K := by
  cases op with
  | load t x => cases hf
  | slice t x lo hi mx => cases hf
  | indexAddr t x i => cases hf
  | lookup t x i c => cases hf
  | buildSlice t len parts =>
    simp only [opC] at h ⊢
    unfold buildSliceK at h ⊢
    exact h
  | _ => exact h

theorem fillA_mono {pl : Nat → Option (Nat × Nat)} {K K' : List AV → Prop} (hk : ∀ c, K c → K' c) : ∀ (parts : List (Nat × AV)) (cells : List AV), fillA pl cells parts K → fillA pl cells parts K' := by
  intro parts
  induction parts with
  | nil => intro cells h; exact hk _ h
  | cons p rest ih =>
    obtain ⟨i, v⟩ := p
    intro cells h
    simp only [fillA] at h ⊢
    split at h
    · exact ⟨h.1, h.2.1, h.2.2.1, ih _ h.2.2.2⟩
    · exact h.elim

def isCall : Op → Bool
  | .call c => match c.callee with
    | .value _ => true
    | _ => false
  | _ => false

def isStore : Op → Bool
  | .store .. => true
  | .mapUpdate .. => true
  | .call c => match c.callee with
    | .builtin _ => false
    | _ => false
  | _ => false

theorem opX_mono {H : Heap} {ρ : Operand → AV} {o : Oper} {K K' : AV → Heap → Prop} (h : opX P w0 H ρ o K) (hk : ∀ v H', K v H' → K' v H') : opX P w0 H ρ o K' := by
  unfold opX at h ⊢
  split at h
  · refine ⟨h.1, ?_⟩
    have h2 := h.2; unfold nilOwnK at h2 ⊢
    split at h2
    · exact ⟨h2.1, fun r hr => hk _ _ (h2.2 r hr)⟩
    · exact h2.elim
  · refine ⟨h.1, ?_⟩
    have h2 := h.2; unfold nilOwnK at h2 ⊢
    split at h2
    · exact ⟨h2.1, fun r hr => hk _ _ (h2.2 r hr)⟩
    · exact h2.elim
  · unfold buildSliceK at h ⊢
    split at h
    · refine ⟨h.1, h.2.1, ?_⟩
      have h2 := h.2.2
      split at h2
      · refine ⟨h2.1, h2.2.1, fillA_mono (fun c hc => ?_) _ _ h2.2.2⟩
        simp only [if_true] at hc ⊢
        exact fun r hr => hk _ _ (hc r hr)
      · exact h2.elim
    · exact h.elim
  · unfold allocK at h ⊢
    split at h
    · exact ⟨h.1, fun r hr => hk _ _ (h.2 r hr)⟩
    · exact h.elim
  · exact ⟨h.1, fun r hr => hk _ _ (h.2 r hr)⟩
  · unfold storeK at h ⊢
    split at h
    · split at h
      · exact ⟨h.1, h.2.1, h.2.2.1, h.2.2.2.1, hk _ _ h.2.2.2.2⟩
      · exact h.elim
    · exact h.elim
  · unfold makeSliceK at h ⊢
    split at h
    · split at h
      · refine ⟨h.1, h.2.1, h.2.2.1, h.2.2.2.1, h.2.2.2.2.1, ?_⟩
        have h2 := h.2.2.2.2.2
        split at h2
        · exact ⟨h2.1, h2.2.1, fun r hr => hk _ _ (h2.2.2 r hr)⟩
        · exact h2.elim
      · exact h.elim
    · exact h.elim
  · exact ⟨h.1, fun r hr => hk _ _ (h.2 r hr)⟩
  · unfold mapUpdateK at h ⊢
    split at h
    · refine ⟨h.1, h.2.1, h.2.2.1, ?_⟩
      have h2 := h.2.2.2
      split at h2
      · exact hk _ _ h2
      · exact h2.elim
    · exact h.elim
  · unfold eqS at h ⊢
    refine ⟨h.1, ?_⟩
    have h2 := h.2
    split at h2
    · exact ⟨fun hn => hk _ _ (h2.1 hn), hk _ _ h2.2⟩
    · exact hk _ _ h2
    · exact h2.elim
  · unfold eqS at h ⊢
    refine ⟨h.1, ?_⟩
    have h2 := h.2
    split at h2
    · exact ⟨fun hn => hk _ _ (h2.1 hn), hk _ _ h2.2⟩
    · exact hk _ _ h2
    · exact h2.elim
  · split at h
    · unfold appendK at h ⊢
      split at h
      · refine ⟨h.1, h.2.1, ?_⟩
        have h2 := h.2.2
        split at h2
        · split at h2
          · refine ⟨h2.1, h2.2.1, ?_⟩
            have h3 := h2.2.2
            split at h3
            · refine ⟨h3.1, h3.2.1, h3.2.2.1, h3.2.2.2.1, ?_⟩
              have h4 := h3.2.2.2.2
              split at h4
              · rename_i hc; rw [if_pos hc]; exact hk _ _ h4
              · rename_i hc; rw [if_neg hc]; exact fun r hr => hk _ _ (h4 r hr)
            · exact h3.elim
          · split at h2
            · exact ⟨h2.1, h2.2.1, h2.2.2.1, h2.2.2.2.1, fun r hr => hk _ _ (h2.2.2.2.2 r hr)⟩
            · exact h2.elim
        · exact h2.elim
      · exact h.elim
    · unfold copyK at h ⊢
      split at h
      · refine ⟨h.1, ?_⟩
        have h2 := h.2
        split at h2
        · split at h2
          · split at h2
            · exact ⟨h2.1, h2.2.1, h2.2.2.1, hk _ _ h2.2.2.2⟩
            · exact h2.elim
          · exact h2.elim
        · exact h2.elim
      · exact h.elim
    · unfold clearK at h ⊢
      split at h
      · refine ⟨h.1, ?_⟩
        have h2 := h.2
        split at h2
        · refine ⟨h2.1, h2.2.1, ?_⟩
          have h3 := h2.2.2
          split at h3
          · split at h3
            · exact ⟨h3.1, h3.2.1, h3.2.2.1, hk _ _ h3.2.2.2⟩
            · exact h3.elim
          · exact h3.elim
        · exact h2.elim
      · exact h.elim
    · unfold callK at h ⊢
      split at h
      · exact h.mono hk
      · exact h.elim
    · exact h.elim
  · exact h.elim

/-- What is no store and no call leaves the variables as they are. -/
theorem opX_keeps {H : Heap} {ρ : Operand → AV} {o : Oper} {K : AV → Heap → Prop} (hc : isCall o.op = false) (hs : isStore o.op = false) (h : opX P w0 H ρ o K) : opX P w0 H ρ o (fun v H' => KeepsBox H H' ∧ K v H') := by
  unfold opX at h ⊢
  split at h
  · refine ⟨h.1, ?_⟩
    have h2 := h.2; unfold nilOwnK at h2 ⊢
    split at h2
    · exact ⟨h2.1, fun r hr => ⟨.fresh hr _, h2.2 r hr⟩⟩
    · exact h2.elim
  · refine ⟨h.1, ?_⟩
    have h2 := h.2; unfold nilOwnK at h2 ⊢
    split at h2
    · exact ⟨h2.1, fun r hr => ⟨.fresh hr _, h2.2 r hr⟩⟩
    · exact h2.elim
  · unfold buildSliceK at h ⊢
    split at h
    · refine ⟨h.1, h.2.1, ?_⟩
      have h2 := h.2.2
      split at h2
      · refine ⟨h2.1, h2.2.1, fillA_mono (fun c hc => ?_) _ _ h2.2.2⟩
        simp only [if_true] at hc ⊢
        exact fun r hr => ⟨.fresh hr _, hc r hr⟩
      · exact h2.elim
    · exact h.elim
  · unfold allocK at h ⊢
    split at h
    · exact ⟨h.1, fun r hr => ⟨.fresh hr _, h.2 r hr⟩⟩
    · exact h.elim
  · exact ⟨h.1, fun r hr => ⟨.fresh hr _, h.2 r hr⟩⟩
  · rename_i e; rw [e] at hs; cases hs
  · unfold makeSliceK at h ⊢
    split at h
    · split at h
      · refine ⟨h.1, h.2.1, h.2.2.1, h.2.2.2.1, h.2.2.2.2.1, ?_⟩
        have h2 := h.2.2.2.2.2
        split at h2
        · exact ⟨h2.1, h2.2.1, fun r hr => ⟨.fresh hr _, h2.2.2 r hr⟩⟩
        · exact h2.elim
      · exact h.elim
    · exact h.elim
  · exact ⟨h.1, fun r hr => ⟨.fresh hr _, h.2 r hr⟩⟩
  · rename_i e; rw [e] at hs; cases hs
  · unfold eqS at h ⊢
    refine ⟨h.1, ?_⟩
    have h2 := h.2
    split at h2
    · exact ⟨fun hn => ⟨.refl _, h2.1 hn⟩, .refl _, h2.2⟩
    · exact ⟨.refl _, h2⟩
    · exact h2.elim
  · unfold eqS at h ⊢
    refine ⟨h.1, ?_⟩
    have h2 := h.2
    split at h2
    · exact ⟨fun hn => ⟨.refl _, h2.1 hn⟩, .refl _, h2.2⟩
    · exact ⟨.refl _, h2⟩
    · exact h2.elim
  · rename_i c e
    split at h
    · unfold appendK at h ⊢
      split at h
      · refine ⟨h.1, h.2.1, ?_⟩
        have h2 := h.2.2
        split at h2
        · split at h2
          · refine ⟨h2.1, h2.2.1, ?_⟩
            have h3 := h2.2.2
            split at h3
            · rename_i hH
              refine ⟨h3.1, h3.2.1, h3.2.2.1, h3.2.2.2.1, ?_⟩
              have h4 := h3.2.2.2.2
              split at h4
              · rename_i hc; rw [if_pos hc]; exact ⟨(KeepsBox.refl _).updA hH _, h4⟩
              · rename_i hc; rw [if_neg hc]; exact fun r hr => ⟨((KeepsBox.refl _).updA hH _).updN hr _, h4 r hr⟩
            · exact h3.elim
          · split at h2
            · exact ⟨h2.1, h2.2.1, h2.2.2.1, h2.2.2.2.1, fun r hr => ⟨.fresh hr _, h2.2.2.2.2 r hr⟩⟩
            · exact h2.elim
        · exact h2.elim
      · exact h.elim
    · unfold copyK at h ⊢
      split at h
      · refine ⟨h.1, ?_⟩
        have h2 := h.2
        split at h2
        · split at h2
          · split at h2
            · rename_i hH; exact ⟨h2.1, h2.2.1, h2.2.2.1, (KeepsBox.refl _).updA hH _, h2.2.2.2⟩
            · exact h2.elim
          · exact h2.elim
        · exact h2.elim
      · exact h.elim
    · unfold clearK at h ⊢
      split at h
      · refine ⟨h.1, ?_⟩
        have h2 := h.2
        split at h2
        · refine ⟨h2.1, h2.2.1, ?_⟩
          have h3 := h2.2.2
          split at h3
          · split at h3
            · rename_i hH; exact ⟨h3.1, h3.2.1, h3.2.2.1, (KeepsBox.refl _).updA hH _, h3.2.2.2⟩
            · exact h3.elim
          · exact h3.elim
        · exact h2.elim
      · exact h.elim
    · rename_i e1; rw [e] at hc; simp only [isCall, e1] at hc; cases hc
    · exact h.elim
  · exact h.elim

theorem opX_congr {H : Heap} {ρ ρ' : Operand → AV} {o : Oper} {K : AV → Heap → Prop} (hρ : ∀ x ∈ o.op.operands, ρ x = ρ' x) (h : opX P w0 H ρ o K) : opX P w0 H ρ' o K := by
  unfold opX at h ⊢
  generalize ho : o.op = op at h hρ
  cases op with
  | move x => simp only at h ⊢; rw [← hρ x (by simp [Op.operands])]; exact h
  | assign x => simp only at h ⊢; rw [← hρ x (by simp [Op.operands])]; exact h
  | buildSlice t len parts =>
    have : (parts.toList.map fun p => (p.1, ρ p.2)) = (parts.toList.map fun p => (p.1, ρ' p.2)) := by
      apply List.map_congr_left
      intro p hp
      rw [hρ p.2 (by simp [Op.operands]; exact ⟨p.1, by simpa using hp⟩)]
    simp only at h ⊢; rw [← this]; exact h
  | alloc t => exact h
  | box t x => simp only at h ⊢; rw [← hρ x (by simp [Op.operands])]; exact h
  | store t x y => simp only at h ⊢; rw [← hρ x (by simp [Op.operands]), ← hρ y (by simp [Op.operands])]; exact h
  | makeSlice t l c => simp only at h ⊢; rw [← hρ l (by simp [Op.operands]), ← hρ c (by simp [Op.operands])]; exact h
  | makeMap t c => exact h
  | mapUpdate t x i y => simp only at h ⊢; rw [← hρ x (by simp [Op.operands]), ← hρ i (by simp [Op.operands]), ← hρ y (by simp [Op.operands])]; exact h
  | binOp op t x y t' =>
    have hx := hρ x (by simp [Op.operands])
    cases op <;> first | (simp only at h ⊢; rw [← hx]; exact h) | exact h
  | call c =>
    simp only at h ⊢
    have mem : ∀ x, x ∈ c.args.toList → x ∈ (Op.call c).operands := fun x hx => by simp [Op.operands, Call.operands]; right; simpa using hx
    split at h
    · rename_i s x t1 t2 _ e2 _
      rw [← hρ s (mem s (by rw [e2]; simp)), ← hρ x (mem x (by rw [e2]; simp))]; exact h
    · rename_i s x t1 t2 _ e2 _
      rw [← hρ s (mem s (by rw [e2]; simp)), ← hρ x (mem x (by rw [e2]; simp))]; exact h
    · rename_i s t _ e2 _
      rw [← hρ s (mem s (by rw [e2]; simp))]; exact h
    · rename_i f e1
      have hf : ρ f = ρ' f := hρ f (by simp [Op.operands, Call.operands, e1])
      have hm : (c.args.toList.map fun x => wk (ρ x)) = (c.args.toList.map fun x => wk (ρ' x)) := List.map_congr_left fun x hx => by rw [hρ x (mem x hx)]
      rw [← hf, ← hm]; exact h
    · exact h.elim
  | _ => exact h.elim
end
end Go.Am
