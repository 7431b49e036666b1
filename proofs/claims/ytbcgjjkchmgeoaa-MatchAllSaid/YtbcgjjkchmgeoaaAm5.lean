/- The abstract machine, part 5: addresses, slices, numbers, aggregates. -/
import Derived.Test.YtbcgjjkchmgeoaaAm4
namespace Go.Am
open Go

section
variable {P : Program} {w0 : World} {nt : Nat}

/-- What an operation on slots alone asks: a condition on the value, and the value. -/
theorem ok_pureK {o : Oper} {env : Env} {H : Heap} {K : Env → Heap → Prop} (C : (AV → Prop) → Prop)
    (hC : ∀ w F M a, Rel w0 w F M H → EnvR F M nt env a → ∀ K' : AV → Prop, C K' → ∃ v cv, (execOp a.eval o).run P w = .ok (.value cv) w ∧ VR F M v cv ∧ K' v)
    (h : C (fun v => putK nt o.dst v env (fun env' => K env' H))) : OpOK P w0 nt o env H K := by
  refine op_heap fun w F M a r er => ?_
  obtain ⟨v, cv, hr, hv, k⟩ := hC w F M a r er _ h
  exact ⟨cv, w, v, H, F, M, hr, Ext.refl _ _, r, hv, k⟩

def fieldAddrK (P : Program) (st : TypeId) (x : AV) (f : Nat) (K : AV → Prop) : Prop :=
  match fld P st f with
  | some (off, t) => 0 < sz P t ∧
    match x with
    | .ptr r top o => K (.ptr r top (o + off))
    | .eptr cells o => K (.eptr cells (o + off))
    | _ => False
  | none => False

theorem fld_eq {st : TypeId} {f off : Nat} {t : TypeId} (h : fld P st f = some (off, t)) : ∃ fs fd, P.underlying st = some (.struct fs) ∧ fs[f]? = some fd ∧ fd.offset = off ∧ fd.type = t := by
  unfold fld at h
  split at h
  · rename_i fs hu
    cases hf : fs[f]? with
    | none => simp [hf] at h
    | some fd => simp [hf] at h; exact ⟨fs, fd, hu, hf, h.1, h.2⟩
  · cases h

theorem ok_fieldAddr {o : Oper} {env : Env} {H : Heap} {K : Env → Heap → Prop} {st : TypeId} {x : Operand} {f : Nat} (ho : o.op = .fieldAddr st x f)
    (h : fieldAddrK P st (evO env x) f (fun v => putK nt o.dst v env (fun env' => K env' H))) : OpOK P w0 nt o env H K := by
  refine ok_pureK _ ?_ h
  clear h
  intro w F M a r er K' h
  have hx := er.ev x
  unfold fieldAddrK at h
  split at h
  · rename_i off t hf
    obtain ⟨fs, fd, hu, hfd, rfl, rfl⟩ := fld_eq hf
    obtain ⟨hz, h⟩ := h
    have hz0 : ¬ (sz P fd.type = 0) := by omega
    split at h
    · rename_i rr top oo e
      rw [e] at hx
      obtain ⟨g, o', cap, es, hM, hcv⟩ := hx.ptr_inv
      have e1 : o' + oo + fd.offset = o' + (oo + fd.offset) := by omega
      exact ⟨_, .pointer (some ⟨g, o' + (oo + fd.offset), none⟩), by simp [execOp, ho, hcv, Instr.fieldAt, run_underlying hu, hfd, Instr.sureAddr, fieldPlace, run_sizeOf hz, hz0, addr_add, e1], .ptr hM, h⟩
    · rename_i cells oo e
      rw [e] at hx
      obtain ⟨b, o', cs, e', fz, hF, hC, hcv⟩ := hx.eptr_inv
      have e1 : o' + oo + fd.offset = o' + (oo + fd.offset) := by omega
      obtain ⟨ff, h1, h2, h3⟩ := hC.fn
      exact ⟨_, .pointer (some ⟨b, o' + (oo + fd.offset), none⟩), by simp [execOp, ho, hcv, Instr.fieldAt, run_underlying hu, hfd, Instr.sureAddr, fieldPlace, run_sizeOf hz, hz0, addr_add, e1], .eptr ff hF h1 h2 h3, h⟩
    · exact h.elim
  · exact h.elim

def indexAddrK (P : Program) (H : Heap) (t : TypeId) (x i : AV) (K : AV → Prop) : Prop :=
  match i with
  | .sc (.int _ i) => 0 ≤ i ∧
    match slE P t with
    | some e => 0 < sz P e ∧
      match x with
      | .sl cells n | .csl cells n => i < n ∧ K (.eptr cells (i.toNat * sz P e))
      | .ref r off n top | .cref r off n top => i < n ∧
        match H r with
        | some (.arr es _ _ n') => n' = top ∧ es = sz P e ∧ K (.ptr r top ((off + i.toNat) * sz P e))
        | _ => False
      | _ => False
    | none => match arE P t with
      | some (n, e) => 0 < sz P e ∧ i < n ∧
        match x with
        | .ptr r top o => K (.ptr r top (o + i.toNat * sz P e))
        | .eptr cells o => K (.eptr cells (o + i.toNat * sz P e))
        | _ => False
      | none => False
  | _ => False

theorem VR.sl_inv {F : Ft} {M : Mt} {cells : List AV} {n : Nat} {cv : Value} (h : VR F M (.sl cells n) cv) :
    ∃ a c, cv = .slice a n c ∧ n ≤ c ∧ ((cells = [] ∧ n = 0) ∨ ∃ b o cs e fz, a = some ⟨b, o, none⟩ ∧ F b = some (.cells cs e fz) ∧ VRC F M cells cs o) := by
  cases h with
  | sl f hF hn h1 h2 ho => exact ⟨_, _, rfl, hn, .inr ⟨_, _, _, _, _, rfl, hF, VRC.of h1 h2 ho⟩⟩
  | sl0 => exact ⟨_, _, rfl, Nat.zero_le _, .inl ⟨rfl, rfl⟩⟩
theorem VR.csl_inv {F : Ft} {M : Mt} {cells : List AV} {n : Nat} {cv : Value} (h : VR F M (.csl cells n) cv) :
    ∃ a, cv = .slice a n n ∧ ((cells = [] ∧ n = 0) ∨ ∃ b o cs e fz, a = some ⟨b, o, none⟩ ∧ F b = some (.cells cs e fz) ∧ VRC F M cells cs o) := by
  cases h with
  | csl f hF h1 h2 ho => exact ⟨_, rfl, .inr ⟨_, _, _, _, _, rfl, hF, VRC.of h1 h2 ho⟩⟩
  | csl0 => exact ⟨_, rfl, .inl ⟨rfl, rfl⟩⟩
theorem VR.ref_inv {F : Ft} {M : Mt} {r off n top : Nat} {cv : Value} (h : VR F M (.ref r off n top) cv) :
    ∃ b c a cap es, cv = .slice b n c ∧ n ≤ c ∧ off + c ≤ cap ∧ M r top = some (a, cap, es) ∧ (c = 0 ∨ ∃ g o, a = some ⟨g, o, none⟩ ∧ b = some ⟨g, o + off * es, none⟩) := by
  cases h with
  | ref hM hl hc hz => exact ⟨_, _, _, _, _, rfl, hl, hc, hM, hz⟩
theorem VR.cref_inv {F : Ft} {M : Mt} {r off n top : Nat} {cv : Value} (h : VR F M (.cref r off n top) cv) :
    ∃ b a cap es, cv = .slice b n n ∧ off + n ≤ cap ∧ M r top = some (a, cap, es) ∧ (n = 0 ∨ ∃ g o, a = some ⟨g, o, none⟩ ∧ b = some ⟨g, o + off * es, none⟩) := by
  cases h with
  | cref hM hc hz => exact ⟨_, _, _, _, rfl, hc, hM, hz⟩
/-- Any of the two. -/
theorem VR.anysl_inv {F : Ft} {M : Mt} {x : AV} {cells : List AV} {n : Nat} {cv : Value} (hx : x = .sl cells n ∨ x = .csl cells n) (h : VR F M x cv) :
    ∃ a c, cv = .slice a n c ∧ n ≤ c ∧ (x = .csl cells n → c = n) ∧ ((cells = [] ∧ n = 0) ∨ ∃ b o cs e fz, a = some ⟨b, o, none⟩ ∧ F b = some (.cells cs e fz) ∧ VRC F M cells cs o) := by
  rcases hx with rfl | rfl
  · obtain ⟨a, c, h1, h2, h3⟩ := h.sl_inv; exact ⟨a, c, h1, h2, (fun e => by cases e), h3⟩
  · obtain ⟨a, h1, h3⟩ := h.csl_inv; exact ⟨a, n, h1, Nat.le_refl _, fun _ => rfl, h3⟩
theorem VR.anyref_inv {F : Ft} {M : Mt} {x : AV} {r off n top : Nat} {cv : Value} (hx : x = .ref r off n top ∨ x = .cref r off n top) (h : VR F M x cv) :
    ∃ b c a cap es, cv = .slice b n c ∧ n ≤ c ∧ off + c ≤ cap ∧ M r top = some (a, cap, es) ∧ (x = .cref r off n top → c = n) ∧ (c = 0 ∨ ∃ g o, a = some ⟨g, o, none⟩ ∧ b = some ⟨g, o + off * es, none⟩) := by
  rcases hx with rfl | rfl
  · obtain ⟨b, c, a, cap, es, h1, h2, h3, h4, h5⟩ := h.ref_inv; exact ⟨b, c, a, cap, es, h1, h2, h3, h4, (fun e => by cases e), h5⟩
  · obtain ⟨b, a, cap, es, h1, h2, h3, h4⟩ := h.cref_inv; exact ⟨b, n, a, cap, es, h1, Nat.le_refl _, h2, h3, fun _ => rfl, h4⟩

theorem ok_indexAddr {o : Oper} {env : Env} {H : Heap} {K : Env → Heap → Prop} {t : TypeId} {x i : Operand} (ho : o.op = .indexAddr t x i)
    (h : indexAddrK P H t (evO env x) (evO env i) (fun v => putK nt o.dst v env (fun env' => K env' H))) : OpOK P w0 nt o env H K := by
  refine ok_pureK _ ?_ h
  clear h
  intro w F M a r er K' h
  have hx := er.ev x
  have hi := er.ev i
  unfold indexAddrK at h
  split at h
  · rename_i ik iv ei
    rw [ei] at hi
    have hci := hi.sc_inv
    obtain ⟨h0, h⟩ := h
    split at h
    · rename_i e hs
      have hu := slE_eq hs
      obtain ⟨hz, h⟩ := h
      have sls : ∀ cells n, (evO env x = .sl cells n ∨ evO env x = .csl cells n) → iv < n → K' (.eptr cells (iv.toNat * sz P e)) →
          ∃ v cv, (execOp a.eval o).run P w = .ok (.value cv) w ∧ VR F M v cv ∧ K' v := by
        intro cells n hor hlt k
        obtain ⟨ad, c, hcv, hn, _, hcase⟩ := VR.anysl_inv hor hx
        rcases hcase with ⟨_, rfl⟩ | ⟨b, o', cs, e', fz, rfl, hF, hC⟩
        · omega
        · obtain ⟨ff, h1, h2, h3⟩ := hC.fn
          exact ⟨_, .pointer (some ⟨b, o' + iv.toNat * sz P e, none⟩), by simp [execOp, ho, hcv, hci, Instr.indexAt, asIntOf, run_underlying hu, h0, hlt, run_sizeOf hz, addr_add], .eptr ff hF h1 h2 h3, k⟩
      have refs : ∀ rr off n top, (evO env x = .ref rr off n top ∨ evO env x = .cref rr off n top) → iv < n →
          (match H rr with
            | some (.arr es _ _ n') => n' = top ∧ es = sz P e ∧ K' (.ptr rr top ((off + iv.toNat) * sz P e))
            | _ => False) → ∃ v cv, (execOp a.eval o).run P w = .ok (.value cv) w ∧ VR F M v cv ∧ K' v := by
        intro rr off n top hor hlt k
        obtain ⟨b, c, ad, cap, es, hcv, hn, hoc, hM, _, hcase⟩ := VR.anyref_inv hor hx
        split at k
        · rename_i es' e' cells n' hH
          obtain ⟨rfl, rfl, k⟩ := k
          have hb := r.blk rr _ hH
          obtain ⟨_, _, a', cap', hM', _⟩ := hb
          rw [hM] at hM'; cases hM'
          rcases hcase with hc0 | ⟨g, o', rfl, rfl⟩
          · omega
          · have e1 : o' + off * sz P e + iv.toNat * sz P e = o' + (off + iv.toNat) * sz P e := by rw [Nat.add_mul]; omega
            exact ⟨_, .pointer (some ⟨g, o' + (off + iv.toNat) * sz P e, none⟩), by simp [execOp, ho, hcv, hci, Instr.indexAt, asIntOf, run_underlying hu, h0, hlt, run_sizeOf hz, addr_add, e1], .ptr hM, k⟩
        · exact k.elim
      split at h
      · rename_i cells n ex; exact sls cells n (.inl ex) h.1 h.2
      · rename_i cells n ex; exact sls cells n (.inr ex) h.1 h.2
      · rename_i rr off n top ex; exact refs rr off n top (.inl ex) h.1 h.2
      · rename_i rr off n top ex; exact refs rr off n top (.inr ex) h.1 h.2
      · exact h.elim
    · split at h
      · rename_i n e ha
        have hu := arE_eq ha
        obtain ⟨hz, hlt, h⟩ := h
        split at h
        · rename_i rr top oo ex
          rw [ex] at hx
          obtain ⟨g, o', cap, es, hM, hcv⟩ := hx.ptr_inv
          have e1 : o' + oo + iv.toNat * sz P e = o' + (oo + iv.toNat * sz P e) := by omega
          exact ⟨_, .pointer (some ⟨g, o' + (oo + iv.toNat * sz P e), none⟩), by simp [execOp, ho, hcv, hci, Instr.indexAt, Instr.sureAddr, asIntOf, run_underlying hu, h0, hlt, run_sizeOf hz, addr_add, e1], .ptr hM, h⟩
        · rename_i cells oo ex
          rw [ex] at hx
          obtain ⟨b, o', cs, e', fz, hF, hC, hcv⟩ := hx.eptr_inv
          have e1 : o' + oo + iv.toNat * sz P e = o' + (oo + iv.toNat * sz P e) := by omega
          obtain ⟨ff, h1, h2, h3⟩ := hC.fn
          exact ⟨_, .pointer (some ⟨b, o' + (oo + iv.toNat * sz P e), none⟩), by simp [execOp, ho, hcv, hci, Instr.indexAt, Instr.sureAddr, asIntOf, run_underlying hu, h0, hlt, run_sizeOf hz, addr_add, e1], .eptr ff hF h1 h2 h3, h⟩
        · exact h.elim
      · exact h.elim
  · exact h.elim

theorem slLen_inv {F : Ft} {M : Mt} {x : AV} {n : Nat} {cv : Value} (hl : slLen x = some n) (h : VR F M x cv) : ∃ a c, cv = .slice a n c ∧ n ≤ c := by
  unfold slLen at hl
  split at hl <;> try (cases hl; done)
  · cases hl; obtain ⟨a, c, e, hn, _⟩ := h.sl_inv; exact ⟨a, c, e, hn⟩
  · cases hl; obtain ⟨a, e, _⟩ := h.csl_inv; exact ⟨a, _, e, Nat.le_refl _⟩
  · cases hl; obtain ⟨b, c, _, _, _, e, hn, _⟩ := h.ref_inv; exact ⟨b, c, e, hn⟩
  · cases hl; obtain ⟨b, _, _, _, e, _⟩ := h.cref_inv; exact ⟨b, _, e, Nat.le_refl _⟩
  · cases hl; have := h.sc_inv; exact ⟨none, 0, this, Nat.le_refl _⟩

/-- The slice's part from lo to hi; clip: with no more capacity than that. -/
theorem sliceK_ok {w : World} {F : Ft} {M : Mt} {H : Heap} {x : AV} {es lo hi n c : Nat} {clip full : Bool} {a : Option Addr} {K : AV → Prop} (r : Rel w0 w F M H) (hx : VR F M x (.slice a n c)) (h : sliceK H x es lo hi clip full K) :
    lo ≤ hi ∧ hi ≤ n ∧ ∃ v, VR F M v (sliced a lo hi (if clip then hi else c) es) ∧ K v := by
  have sls : ∀ cells m, (x = .sl cells m ∨ x = .csl cells m) → lo ≤ hi → hi ≤ m → (full = true → cells.length = m * es ∧ hi = m) →
      K (if clip then .csl (if full then cells.drop (lo * es) else (cells.drop (lo * es)).take ((hi - lo) * es)) (hi - lo) else .sl (if full then cells.drop (lo * es) else (cells.drop (lo * es)).take ((hi - lo) * es)) (hi - lo)) →
      lo ≤ hi ∧ hi ≤ n ∧ ∃ v, VR F M v (sliced a lo hi (if clip then hi else c) es) ∧ K v := by
    intro cells m hor h1 h2 hfull k
    obtain ⟨a', c', he, hn, hcc, hcase⟩ := VR.anysl_inv hor hx
    cases he
    refine ⟨h1, h2, _, ?_, k⟩
    generalize hsub : (if full then cells.drop (lo * es) else (cells.drop (lo * es)).take ((hi - lo) * es)) = sub
    have hsubget : ∀ i av, sub[i]? = some av → cells[lo * es + i]? = some av := by
      intro i av hi'
      rw [← hsub] at hi'
      split at hi'
      · rwa [List.getElem?_drop] at hi'
      · rw [List.getElem?_take] at hi'
        split at hi'
        · rwa [List.getElem?_drop] at hi'
        · cases hi'
    have hempty : hi = lo → sub = [] := by
      intro e
      subst e
      rw [← hsub]
      cases hf : full
      · simp
      · obtain ⟨g1, rfl⟩ := hfull hf
        simp [← g1]
    by_cases he : hi = lo
    · have e0 := hempty he
      subst he
      rw [e0, Nat.sub_self]
      cases clip
      · simp only [Bool.false_eq_true, if_false, sliced, Nat.sub_self]
        exact .sl0
      · simp only [if_true, sliced, Nat.sub_self]
        exact .csl0
    · have hlt : lo < hi := by omega
      rcases hcase with ⟨rfl, rfl⟩ | ⟨b, o, cs, e, fz, rfl, hF, hC⟩
      · omega
      · have hC' : VRC F M sub cs (o + lo * es) := by
          intro i av hi'
          obtain ⟨p, cv, q, s⟩ := hC _ _ (hsubget i av hi')
          exact ⟨p, cv, by rw [Nat.add_assoc]; exact q, s⟩
        obtain ⟨ff, g1, g2, g3⟩ := hC'.fn
        cases clip
        · have hne : ¬ (c = lo) := by omega
          simp only [Bool.false_eq_true, if_false, sliced, if_neg hne, Option.map_some, addr_add]
          exact .sl ff hF (by omega) g1 g2 g3
        · simp only [if_true, sliced, if_neg he, Option.map_some, addr_add]
          exact .csl ff hF g1 g2 g3
  have refs : ∀ rr off m top, (x = .ref rr off m top ∨ x = .cref rr off m top) → lo ≤ hi → hi ≤ m →
      (match H rr with
        | some (.arr es' _ _ n') => n' = top ∧ es' = es ∧ K (if clip then .cref rr (off + lo) (hi - lo) top else .ref rr (off + lo) (hi - lo) top)
        | _ => False) → lo ≤ hi ∧ hi ≤ n ∧ ∃ v, VR F M v (sliced a lo hi (if clip then hi else c) es) ∧ K v := by
    intro rr off m top hor h1 h2 k
    obtain ⟨b, c', a', cap, es', he, hn, hoc, hM, _, hcase⟩ := VR.anyref_inv hor hx
    cases he
    split at k
    · rename_i es2 e2 cells n' hH
      obtain ⟨rfl, rfl, k⟩ := k
      obtain ⟨_, _, a2, cap2, hM2, _⟩ := r.blk rr _ hH
      rw [hM] at hM2; cases hM2
      refine ⟨h1, h2, _, ?_, k⟩
      cases clip
      · simp only [Bool.false_eq_true, if_false, sliced]
        refine .ref hM (by omega) (by omega) ?_
        by_cases hz : c - lo = 0
        · exact .inl hz
        · rcases hcase with hc0 | ⟨g, o', rfl, rfl⟩
          · omega
          · refine .inr ⟨g, o', rfl, ?_⟩
            rw [if_neg (by omega), Option.map_some, addr_add, Nat.add_mul, Nat.add_assoc]
      · simp only [if_true, sliced]
        refine .cref hM (by omega) ?_
        by_cases hz : hi - lo = 0
        · exact .inl hz
        · rcases hcase with hc0 | ⟨g, o', rfl, rfl⟩
          · omega
          · refine .inr ⟨g, o', rfl, ?_⟩
            rw [if_neg (by omega), Option.map_some, addr_add, Nat.add_mul, Nat.add_assoc]
    · exact k.elim
  unfold sliceK at h
  split at h
  · rename_i cells m; exact sls cells m (.inl rfl) h.1 h.2.1 h.2.2.1 h.2.2.2
  · rename_i cells m; exact sls cells m (.inr rfl) h.1 h.2.1 h.2.2.1 h.2.2.2
  · rename_i rr off m top; exact refs rr off m top (.inl rfl) h.1 h.2.1 h.2.2
  · rename_i rr off m top; exact refs rr off m top (.inr rfl) h.1 h.2.1 h.2.2
  · obtain ⟨rfl, rfl, k⟩ := h
    have e := hx.sc_inv
    cases e
    refine ⟨Nat.le_refl _, Nat.le_refl _, _, ?_, k⟩
    cases clip <;> simp [sliced] <;> exact .sc _
  · exact h.elim

/-- A bound: given, or not. -/
def bndA (env : Env) : Option Operand → Option AV
  | some x => some (evO env x)
  | none => none

def intA : AV → Option Int
  | .sc (.int _ n) => some n
  | _ => none

def sliceOpK (P : Program) (H : Heap) (t : TypeId) (x : AV) (lo hi mx : Option AV) (K : AV → Prop) : Prop :=
  match slE P t with
  | some e => 0 < sz P e ∧
    match slLen x with
    | some n =>
      match lo.map intA, hi.map intA, mx.map intA with
      | none, none, none => sliceK H x (sz P e) 0 n false true K
      | some (some l), none, none => 0 ≤ l ∧ sliceK H x (sz P e) l.toNat n false true K
      | none, some (some h), none => 0 ≤ h ∧ sliceK H x (sz P e) 0 h.toNat false false K
      | some (some l), some (some h), none => 0 ≤ l ∧ 0 ≤ h ∧ sliceK H x (sz P e) l.toNat h.toNat false false K
      | none, some (some h), some (some m) => h = m ∧ 0 ≤ h ∧ sliceK H x (sz P e) 0 h.toNat true false K
      | some (some l), some (some h), some (some m) => h = m ∧ 0 ≤ l ∧ 0 ≤ h ∧ sliceK H x (sz P e) l.toNat h.toNat true false K
      | _, _, _ => False
    | none => False
  | none => False

theorem intA_inv {F : Ft} {M : Mt} {x : AV} {n : Int} {cv : Value} (h : intA x = some n) (hv : VR F M x cv) : ∃ k, cv = .int k n := by
  unfold intA at h
  split at h
  · cases h; exact ⟨_, hv.sc_inv⟩
  · cases h

theorem ok_slice {o : Oper} {env : Env} {H : Heap} {K : Env → Heap → Prop} {t : TypeId} {x : Operand} {lo hi mx : Option Operand} (ho : o.op = .slice t x lo hi mx)
    (h : sliceOpK P H t (evO env x) (bndA env lo) (bndA env hi) (bndA env mx) (fun v => putK nt o.dst v env (fun env' => K env' H))) : OpOK P w0 nt o env H K := by
  refine ok_pureK _ ?_ h
  clear h
  intro w F M a r er K' h
  have hx := er.ev x
  unfold sliceOpK at h
  split at h
  · rename_i e hs
    have hu := slE_eq hs
    obtain ⟨hz, h⟩ := h
    have hel : P.elem t = e := by simp [Program.elem, hu]
    split at h
    · rename_i n hn
      obtain ⟨ad, c, hcv, hnc⟩ := slLen_inv hn hx
      rw [hcv] at hx
      have base : (execOp a.eval o).run P w = ((Instr.slice t (.slice ad n c) (lo.map a.eval) (hi.map a.eval) (mx.map a.eval)).run P w).andThen fun v w' => .ok (.value v) w' := by
        simp [execOp, ho, hcv, Instr.sliceAt, run_underlying hu]
      have bnd : ∀ (b : Option Operand), (bndA env b).map intA = none → b = none := by
        intro b hb; cases b with
        | none => rfl
        | some y => simp [bndA] at hb
      have bnd' : ∀ (b : Option Operand) (i : Int), (bndA env b).map intA = some (some i) → ∃ k, b.map a.eval = some (.int k i) := by
        intro b i hb; cases b with
        | none => simp [bndA] at hb
        | some y =>
          simp [bndA] at hb
          obtain ⟨k, hk⟩ := intA_inv hb (er.ev y)
          exact ⟨k, by simp [hk]⟩
      have huE : P.underlying t = some (.slice (P.elem t)) := by rw [hel]; exact hu
      split at h
      · rename_i e1 e2 e3
        obtain ⟨g1, g2, v, hv, k⟩ := sliceK_ok r hx h
        rw [bnd lo e1, bnd hi e2, bnd mx e3] at base
        exact ⟨v, sliced ad 0 n c (sz P e), by rw [base]; simp [run_slice_all (P := P) w t ad n c huE, hel, run_sizeOf hz], by simpa using hv, k⟩
      · rename_i l e1 e2 e3
        obtain ⟨h0, h⟩ := h
        obtain ⟨g1, g2, v, hv, k⟩ := sliceK_ok r hx h
        obtain ⟨kl, hl⟩ := bnd' lo l e1
        rw [hl, bnd hi e2, bnd mx e3] at base
        exact ⟨v, sliced ad l.toNat n c (sz P e), by rw [base]; simp [run_slice_l (P := P) w t ad n c huE kl l h0 (by omega), hel, run_sizeOf hz], by simpa using hv, k⟩
      · rename_i hh e1 e2 e3
        obtain ⟨h0, h⟩ := h
        obtain ⟨g1, g2, v, hv, k⟩ := sliceK_ok r hx h
        obtain ⟨kh, hl⟩ := bnd' hi hh e2
        rw [hl, bnd lo e1, bnd mx e3] at base
        exact ⟨v, sliced ad 0 hh.toNat c (sz P e), by rw [base]; simp [run_slice_h (P := P) w t ad n c huE kh hh h0 (by omega), hel, run_sizeOf hz], by simpa using hv, k⟩
      · rename_i l hh e1 e2 e3
        obtain ⟨h0, h0', h⟩ := h
        obtain ⟨g1, g2, v, hv, k⟩ := sliceK_ok r hx h
        obtain ⟨kl, hl⟩ := bnd' lo l e1
        obtain ⟨kh, hl'⟩ := bnd' hi hh e2
        rw [hl, hl', bnd mx e3] at base
        exact ⟨v, sliced ad l.toNat hh.toNat c (sz P e), by rw [base]; simp [run_slice_lh (P := P) w t ad n c huE kl kh l hh h0 (by omega) (by omega), hel, run_sizeOf hz], by simpa using hv, k⟩
      · rename_i hh m e1 e2 e3
        obtain ⟨rfl, h0, h⟩ := h
        obtain ⟨g1, g2, v, hv, k⟩ := sliceK_ok r hx h
        obtain ⟨kh, hl⟩ := bnd' hi hh e2
        obtain ⟨km, hl'⟩ := bnd' mx hh e3
        rw [hl, hl', bnd lo e1] at base
        exact ⟨v, sliced ad 0 hh.toNat hh.toNat (sz P e), by rw [base]; simp [run_slice_hm (P := P) w t ad n c huE kh km hh hh h0 (by omega) (by omega), hel, run_sizeOf hz], by simpa using hv, k⟩
      · rename_i l hh m e1 e2 e3
        obtain ⟨rfl, h0, h0', h⟩ := h
        obtain ⟨g1, g2, v, hv, k⟩ := sliceK_ok r hx h
        obtain ⟨kl, hl⟩ := bnd' lo l e1
        obtain ⟨kh, hl'⟩ := bnd' hi hh e2
        obtain ⟨km, hl2⟩ := bnd' mx hh e3
        rw [hl, hl', hl2] at base
        exact ⟨v, sliced ad l.toNat hh.toNat hh.toNat (sz P e), by rw [base]; simp [run_slice_lhm (P := P) w t ad n c huE kl kh km l hh hh h0 (by omega) (by omega) (by omega), hel, run_sizeOf hz], by simpa using hv, k⟩
      · exact h.elim
    · exact h.elim
  · exact h.elim

def fieldK (P : Program) (t : TypeId) (x : AV) (f : Nat) (K : AV → Prop) : Prop :=
  match x with
  | .agg cells => match fld P t f with
    | some (off, ft) => loadV P ft cells off K
    | none => False
  | _ => False

theorem VR.agg_inv {F : Ft} {M : Mt} {cells : List AV} {cv : Value} (h : VR F M (.agg cells) cv) : ∃ cs, cv = .agg cs ∧ cs.size = cells.length ∧ VRC F M cells cs 0 := by
  cases h with
  | agg f hs h1 h2 ho => exact ⟨_, rfl, hs, VRC.of (by simpa using h1) h2 ho⟩

/-- A part of an aggregate's cells. -/
theorem part_cells {F : Ft} {M : Mt} {w : World} {t : TypeId} {cells : List AV} {off : Nat} {cs : Array Value} {K : AV → Prop}
    (hc : VRC F M cells cs 0) (hs : cs.size = cells.length) (h : loadV P t cells off K) :
    ∃ v cv, (part t cs off).run P w = .ok cv w ∧ VR F M v cv ∧ K v := by
  unfold loadV at h
  split at h
  · rename_i hsc
    split at h
    · rename_i v hv
      obtain ⟨_, cv, hcv, hvr⟩ := hc off v hv
      rw [Nat.zero_add] at hcv
      exact ⟨v, cv, by simp [part, run_isAgg_scal hsc, hcv], hvr, h⟩
    · exact h.elim
  · obtain ⟨ha, hz, hl, k⟩ := h
    refine ⟨_, .agg (cs.extract off (off + sz P t)), by simp [part, run_isAgg_aggr ha, run_sizeOf hz], .agg (fun i => (cs[off + i]?).getD undef) (by simp; omega) ?_ ?_ ?_, k⟩
    · intro i av hi
      rw [List.getElem?_take] at hi
      split at hi
      · have h1 : off + i < cs.size := by omega
        rw [Array.getElem?_extract, if_pos (by omega)]
        simp [h1]
      · cases hi
    · intro i av hi
      rw [List.getElem?_take] at hi
      split at hi
      · rw [List.getElem?_drop] at hi
        obtain ⟨_, cv, hcv, hvr⟩ := hc _ _ hi
        rw [Nat.zero_add] at hcv
        simpa [hcv] using hvr
      · cases hi
    · intro i av hi
      rw [List.getElem?_take] at hi
      split at hi
      · rw [List.getElem?_drop] at hi
        exact (hc _ _ hi).1
      · cases hi

theorem ok_field {o : Oper} {env : Env} {H : Heap} {K : Env → Heap → Prop} {t : TypeId} {x : Operand} {f : Nat} (ho : o.op = .field t x f)
    (h : fieldK P t (evO env x) f (fun v => putK nt o.dst v env (fun env' => K env' H))) : OpOK P w0 nt o env H K := by
  refine ok_pureK _ ?_ h
  clear h
  intro w F M a r er K' h
  have hx := er.ev x
  unfold fieldK at h
  split at h
  · rename_i cells e
    rw [e] at hx
    obtain ⟨cs, hcv, hsz, hC⟩ := hx.agg_inv
    split at h
    · rename_i off ft hf
      obtain ⟨fs, fd, hu, hfd, rfl, rfl⟩ := fld_eq hf
      obtain ⟨v, cv, hr, hv, k⟩ := part_cells (P := P) (w := w) hC hsz h
      exact ⟨v, cv, by simp [execOp, ho, hcv, Instr.field, run_underlying hu, hfd, asAgg, hr], hv, k⟩
    · exact h.elim
  · exact h.elim

def indexK (P : Program) (t : TypeId) (x i : AV) (K : AV → Prop) : Prop :=
  match x, i with
  | .agg cells, .sc (.int _ i) => match arE P t with
    | some (n, e) => 0 < sz P e ∧ 0 ≤ i ∧ i < n ∧ loadV P e cells (i.toNat * sz P e) K
    | none => False
  | .sc (.string s), .sc (.int _ i) => P.underlying t = some .string ∧ 0 ≤ i ∧ ∃ h : i.toNat < s.size, K (.sc (.int .u8 (s[i.toNat]).toNat))
  | _, _ => False

theorem ok_index {o : Oper} {env : Env} {H : Heap} {K : Env → Heap → Prop} {t : TypeId} {x i : Operand} (ho : o.op = .index t x i)
    (h : indexK P t (evO env x) (evO env i) (fun v => putK nt o.dst v env (fun env' => K env' H))) : OpOK P w0 nt o env H K := by
  refine ok_pureK _ ?_ h
  clear h
  intro w F M a r er K' h
  have hx := er.ev x
  have hi := er.ev i
  unfold indexK at h
  split at h
  · rename_i cells ik iv e1 e2
    rw [e1] at hx; rw [e2] at hi
    have hci := hi.sc_inv
    obtain ⟨cs, hcv, hsz, hC⟩ := hx.agg_inv
    split at h
    · rename_i n e ha
      have hu := arE_eq ha
      obtain ⟨hz, h0, h1, h⟩ := h
      obtain ⟨v, cv, hr, hv, k⟩ := part_cells (P := P) (w := w) hC hsz h
      exact ⟨v, cv, by simp [execOp, ho, hcv, hci, Instr.index, run_underlying hu, asIntOf, h0, h1, run_sizeOf hz, hr], hv, k⟩
    · exact h.elim
  · rename_i s ik iv e1 e2
    rw [e1] at hx; rw [e2] at hi
    have hcx := hx.sc_inv
    have hci := hi.sc_inv
    obtain ⟨hu, h0, h1, k⟩ := h
    exact ⟨_, .int .u8 (s[iv.toNat]).toNat, by simp [execOp, ho, hcx, hci, Instr.index, run_underlying hu, asIntOf, h0, h1], .sc _, k⟩
  · exact h.elim

def extractK (x : AV) (i : Nat) (K : AV → Prop) : Prop :=
  match x with
  | .tup vs => match vs[i]? with
    | some v => K v
    | none => False
  | _ => False

theorem ok_extract {o : Oper} {env : Env} {H : Heap} {K : Env → Heap → Prop} {x : Operand} {i : Nat} (ho : o.op = .extract x i)
    (h : extractK (evO env x) i (fun v => putK nt o.dst v env (fun env' => K env' H))) : OpOK P w0 nt o env H K := by
  refine ok_pureK _ ?_ h
  clear h
  intro w F M a r er K' h
  have hx := er.ev x
  unfold extractK at h
  split at h
  · rename_i vs e
    rw [e] at hx
    split at h
    · rename_i v hv
      generalize hcv : a.eval x = cv at hx
      cases hx with
      | tup f hs h1 h2 => exact ⟨v, f i, by simp [execOp, ho, hcv, Instr.extract, h1 i v hv], h2 i v hv, h⟩
    · exact h.elim
  · exact h.elim
end
end Go.Am
