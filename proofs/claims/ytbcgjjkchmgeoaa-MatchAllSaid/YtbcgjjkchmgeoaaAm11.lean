/- The abstract machine, part 11: regions that draw their order. -/
import Derived.Test.YtbcgjjkchmgeoaaAm10
namespace Go.Am
open Go

section
variable {P : Program} {w0 : World} {nt : Nat}

/-- A condition with one value: it asks c, and hands v on. -/
def Det (C : (AV → Prop) → Prop) : Prop := ∀ K, C K → ∃ v, ∀ K', C K' ↔ K' v

theorem Det.one (v : AV) : Det (fun K => K v) := fun _ _ => ⟨v, fun _ => Iff.rfl⟩
theorem Det.false : Det (fun _ => False) := fun _ h => h.elim
theorem Det.and {c : Prop} {C : (AV → Prop) → Prop} (h : Det C) : Det (fun K => c ∧ C K) := fun K hk =>
  let ⟨v, hv⟩ := h K hk.2; ⟨v, fun K' => ⟨fun a => (hv K').1 a.2, fun a => ⟨hk.1, (hv K').2 a⟩⟩⟩
theorem Det.ite {c : Prop} [Decidable c] {C D : (AV → Prop) → Prop} (h : Det C) (k : Det D) : Det (fun K => if c then C K else D K) := by
  by_cases hc : c
  · simp only [hc, if_true]; exact h
  · simp only [hc, if_false]; exact k

theorem det_arith (k : IntKind) (n : Int) : Det (arith k n) := by
  unfold arith; exact Det.ite (Det.and (Det.one _)) (Det.one _)

theorem det_binA (op : BinOp) (x y : AV) : Det (binA op x y) := by
  cases op <;> unfold binA <;> simp only <;> split <;>
    first | exact Det.false | exact Det.and (Det.one _) | exact Det.and (det_arith _ _) | exact Det.and (Det.and (det_arith _ _)) | exact Det.and (Det.and (Det.one _)) | exact Det.and Det.false

theorem det_loadV (t : TypeId) (cells : List AV) (off : Nat) : Det (loadV P t cells off) := by
  unfold loadV
  refine Det.ite ?_ (Det.and (Det.and (Det.and (Det.one _))))
  cases cells[off]? with
  | none => exact Det.false
  | some v => exact Det.one v

theorem det_loadK (H : Heap) (t : TypeId) (a : AV) : Det (loadK P H t a) := by
  unfold loadK
  split
  · exact det_loadV _ _ _
  · split
    · exact det_loadV _ _ _
    · exact Det.false
  · exact Det.false

theorem det_fillA (pl : Nat → Option (Nat × Nat)) (f : List AV → AV) : ∀ (parts : List (Nat × AV)) (cells : List AV), Det (fun K => fillA pl cells parts (fun cs => K (f cs))) := by
  intro parts
  induction parts with
  | nil => intro cells; exact Det.one _
  | cons p rest ih =>
    obtain ⟨i, v⟩ := p
    intro cells
    simp only [fillA]
    cases pl i with
    | none => exact Det.false
    | some q => obtain ⟨off, size⟩ := q; exact Det.and (Det.and (Det.and (ih _)))

theorem det_opC (H : Heap) (ρ : Operand → AV) (op : Op) : Det (opC P H ρ op) := by
  cases op with
  | move x => exact Det.one _
  | assign x => exact Det.one _
  | pick c x y =>
    show Det (pickK (ρ c) (ρ x) (ρ y)); unfold pickK
    split
    · exact Det.one _
    · exact Det.false
  | build t parts =>
    show Det (buildK P t (parts.toList.map fun p => (p.1, ρ p.2))); unfold buildK
    refine Det.and (Det.and ?_)
    split
    · exact Det.and (det_fillA _ _ _ _)
    · exact Det.false
  | buildSlice t len parts =>
    show Det (fun K => buildSliceK P H false t len (parts.toList.map fun p => (p.1, ρ p.2)) (fun v _ => K v)); unfold buildSliceK
    split
    · refine Det.and (Det.and ?_)
      split
      · exact Det.and (Det.and (by simpa using det_fillA _ _ _ _))
      · exact Det.false
    · exact Det.false
  | load t x => exact det_loadK _ _ _
  | nilCheck x =>
    show Det (nilCheckK (ρ x)); unfold nilCheckK
    split <;> first | exact Det.one _ | exact Det.false
  | binOp op t x y t' =>
    show Det (binK P op t (ρ x) (ρ y) (notNilI y (ρ y))); unfold binK
    split
    · exact det_binA _ _ _
    · refine Det.and ?_
      have eqd : ∀ neg x y, Det (eqA P t neg x y) := by
        intro neg x y
        unfold eqA
        split <;> first | exact Det.and (Det.one _) | exact Det.one _ | exact Det.false
      cases op <;> first | exact eqd _ _ _ | exact Det.false
  | unOp op t x =>
    show Det (unK op (ρ x)); unfold unK
    split <;> first | exact Det.one _ | exact det_arith _ _ | exact Det.false
  | convert s d x =>
    show Det (convK P s d (ρ x)); unfold convK
    split
    · split
      · exact Det.and (det_arith _ _)
      · exact Det.false
    · exact Det.false
  | makeInterface t x => show Det (ifaceK P t (ρ x)); unfold ifaceK; exact Det.and (Det.one _)
  | makeFunc fn a b =>
    show Det (funcK fn (a.toList.map ρ) (b.toList.map ρ)); unfold funcK
    split <;> first | exact Det.one _ | exact Det.false
  | slice t x lo hi mx =>
    have sk : ∀ x es lo hi clip full, Det (sliceK H x es lo hi clip full) := by
      intro x es lo hi clip full
      unfold sliceK
      split
      · exact Det.and (Det.and (Det.and (Det.one _)))
      · exact Det.and (Det.and (Det.and (Det.one _)))
      · refine Det.and (Det.and ?_)
        split <;> first | exact Det.and (Det.and (Det.one _)) | exact Det.false
      · refine Det.and (Det.and ?_)
        split <;> first | exact Det.and (Det.and (Det.one _)) | exact Det.false
      · exact Det.and (Det.and (Det.one _))
      · exact Det.false
    show Det (sliceOpK P H t (ρ x) (lo.map ρ) (hi.map ρ) (mx.map ρ)); unfold sliceOpK
    split
    · refine Det.and ?_
      split
      · split <;> first | exact sk _ _ _ _ _ _ | exact Det.and (sk _ _ _ _ _ _) | exact Det.and (Det.and (sk _ _ _ _ _ _)) | exact Det.and (Det.and (Det.and (sk _ _ _ _ _ _))) | exact Det.false
      · exact Det.false
    · exact Det.false
  | fieldAddr t x f =>
    show Det (fieldAddrK P t (ρ x) f); unfold fieldAddrK
    split
    · refine Det.and ?_
      split <;> first | exact Det.one _ | exact Det.false
    · exact Det.false
  | field t x f =>
    show Det (fieldK P t (ρ x) f); unfold fieldK
    split
    · split <;> first | exact det_loadV _ _ _ | exact Det.false
    · exact Det.false
  | indexAddr t x i =>
    show Det (indexAddrK P H t (ρ x) (ρ i)); unfold indexAddrK
    split
    · refine Det.and ?_
      split
      · refine Det.and ?_
        split
        · exact Det.and (Det.one _)
        · exact Det.and (Det.one _)
        · refine Det.and ?_
          split <;> first | exact Det.and (Det.and (Det.one _)) | exact Det.false
        · refine Det.and ?_
          split <;> first | exact Det.and (Det.and (Det.one _)) | exact Det.false
        · exact Det.false
      · split
        · refine Det.and (Det.and ?_)
          split <;> first | exact Det.one _ | exact Det.false
        · exact Det.false
    · exact Det.false
  | index t x i =>
    show Det (indexK P t (ρ x) (ρ i)); unfold indexK
    split
    · split
      · exact Det.and (Det.and (Det.and (det_loadV _ _ _)))
      · exact Det.false
    · rename_i s k i' _ _
      refine Det.and (Det.and ?_)
      intro K hK
      obtain ⟨hlt, k⟩ := hK
      exact ⟨_, fun K' => ⟨fun ⟨_, k'⟩ => k', fun k' => ⟨hlt, k'⟩⟩⟩
    · exact Det.false
  | extract x i =>
    show Det (extractK (ρ x) i); unfold extractK
    split
    · split <;> first | exact Det.one _ | exact Det.false
    · exact Det.false
  | lookup t x i c =>
    show Det (lookupK P H t (ρ x) (ρ i) c); unfold lookupK
    split
    · refine Det.and (Det.and ?_)
      split <;> first | exact Det.one _ | exact Det.false
    · exact Det.false
  | call c =>
    unfold opC
    simp only
    split
    · unfold lenK
      split
      · exact Det.and (Det.one _)
      · refine Det.and ?_
        split <;> first | exact Det.one _ | exact Det.false
    · unfold minmaxK
      split <;> first | exact Det.one _ | exact Det.false
    · unfold minmaxK
      split <;> first | exact Det.one _ | exact Det.false
    · exact Det.false
  | _ => exact Det.false

theorem opC_congr (H : Heap) {ρ ρ' : Operand → AV} (op : Op) (h : ∀ x ∈ op.operands, ρ x = ρ' x) : opC P H ρ op = opC P H ρ' op := by
  funext K
  cases op with
  | build t parts =>
    have : (parts.toList.map fun p => (p.1, ρ p.2)) = (parts.toList.map fun p => (p.1, ρ' p.2)) := by
      apply List.map_congr_left
      intro p hp
      rw [h p.2 (by simp [Op.operands]; exact ⟨p.1, by simpa using hp⟩)]
    simp only [opC, this]
  | buildSlice t len parts =>
    have : (parts.toList.map fun p => (p.1, ρ p.2)) = (parts.toList.map fun p => (p.1, ρ' p.2)) := by
      apply List.map_congr_left
      intro p hp
      rw [h p.2 (by simp [Op.operands]; exact ⟨p.1, by simpa using hp⟩)]
    simp only [opC, this]
  | makeFunc fn a b =>
    have h1 : a.toList.map ρ = a.toList.map ρ' := List.map_congr_left fun x hx => h x (by simp [Op.operands]; exact .inl (by simpa using hx))
    have h2 : b.toList.map ρ = b.toList.map ρ' := List.map_congr_left fun x hx => h x (by simp [Op.operands]; exact .inr (by simpa using hx))
    simp only [opC, h1, h2]
  | slice t x lo hi mx =>
    have h0 := h x (by simp [Op.operands])
    have h1 : lo.map ρ = lo.map ρ' := by cases lo with | none => rfl | some y => simp [h y (by simp [Op.operands])]
    have h2 : hi.map ρ = hi.map ρ' := by cases hi with | none => rfl | some y => simp [h y (by simp [Op.operands])]
    have h3 : mx.map ρ = mx.map ρ' := by cases mx with | none => rfl | some y => simp [h y (by simp [Op.operands])]
    simp only [opC, h0, h1, h2, h3]
  | call c =>
    simp only [opC]
    split
    · rename_i x t _ e2 _
      rw [h x (by simp [Op.operands, Call.operands]; right; rw [← Array.mem_toList_iff, e2]; simp)]
    · rename_i x y _ e2
      rw [h x (by simp [Op.operands, Call.operands]; right; rw [← Array.mem_toList_iff, e2]; simp), h y (by simp [Op.operands, Call.operands]; right; rw [← Array.mem_toList_iff, e2]; simp)]
    · rename_i x y _ e2
      rw [h x (by simp [Op.operands, Call.operands]; right; rw [← Array.mem_toList_iff, e2]; simp), h y (by simp [Op.operands, Call.operands]; right; rw [← Array.mem_toList_iff, e2]; simp)]
    · rfl
  | pick c x y => simp only [opC, h c (by simp [Op.operands]), h x (by simp [Op.operands]), h y (by simp [Op.operands])]
  | binOp op t x y t' => simp only [opC, h x (by simp [Op.operands]), h y (by simp [Op.operands])]
  | indexAddr t x i => simp only [opC, h x (by simp [Op.operands]), h i (by simp [Op.operands])]
  | index t x i => simp only [opC, h x (by simp [Op.operands]), h i (by simp [Op.operands])]
  | move x => simp only [opC, h x (by simp [Op.operands])]
  | assign x => simp only [opC, h x (by simp [Op.operands])]
  | load t x => simp only [opC, h x (by simp [Op.operands])]
  | nilCheck x => simp only [opC, h x (by simp [Op.operands])]
  | unOp op t x => simp only [opC, h x (by simp [Op.operands])]
  | convert s d x => simp only [opC, h x (by simp [Op.operands])]
  | makeInterface t x => simp only [opC, h x (by simp [Op.operands])]
  | fieldAddr t x f => simp only [opC, h x (by simp [Op.operands])]
  | field t x f => simp only [opC, h x (by simp [Op.operands])]
  | extract x i => simp only [opC, h x (by simp [Op.operands])]
  | lookup t x i c => simp only [opC, h x (by simp [Op.operands]), h i (by simp [Op.operands])]
  | _ => rfl
end
end Go.Am
