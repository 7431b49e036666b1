/- The abstract machine, part 9: the other builtins, calls; all operations; regions. -/
import Derived.Test.YtbcgjjkchmgeoaaAm8
namespace Go.Am
open Go

section
variable {P : Program} {w0 : World} {nt : Nat}

def lenK (P : Program) (t : TypeId) (x : AV) (K : AV → Prop) : Prop :=
  match x with
  | .sc (.string s) => P.underlying t = some .string ∧ K (I s.size)
  | x => (slE P t).isSome = true ∧ match slLen x with
    | some n => K (I n)
    | none => False

theorem ok_len {o : Oper} {env : Env} {H : Heap} {K : Env → Heap → Prop} {x : Operand} {t : TypeId} (ho : o.op = .call { callee := .builtin .len, args := #[x], argTypes := #[t] })
    (h : lenK P t (evO env x) (fun v => putK nt o.dst v env (fun env' => K env' H))) : OpOK P w0 nt o env H K := by
  refine ok_pureK _ ?_ h
  clear h
  intro w F M a r er K' h
  have hx := er.ev x
  unfold lenK at h
  split at h
  · rename_i s e
    rw [e] at hx
    obtain ⟨hu, k⟩ := h
    exact ⟨_, .int .i64 s.size, by simp [execOp, ho, resolve, invoke, builtin, hx.sc_inv, Builtin.len_, run_underlying hu, goInt], .sc _, k⟩
  · obtain ⟨hsl, h⟩ := h
    obtain ⟨e, he⟩ := Option.isSome_iff_exists.1 hsl
    have hu := slE_eq he
    split at h
    · rename_i n hn
      obtain ⟨b, c, hcv, _⟩ := slLen_inv hn hx
      exact ⟨_, .int .i64 n, by simp [execOp, ho, resolve, invoke, builtin, hcv, Builtin.len_, run_underlying hu, goInt], .sc _, h⟩
    · exact h.elim

def minmaxK (mx : Bool) (x y : AV) (K : AV → Prop) : Prop :=
  match x, y with
  | .sc (.int k a), .sc (.int _ b) => K (.sc (.int k (if mx then max a b else min a b)))
  | _, _ => False

theorem ok_min {o : Oper} {env : Env} {H : Heap} {K : Env → Heap → Prop} {x y : Operand} {ts : Array TypeId} (ho : o.op = .call { callee := .builtin .min, args := #[x, y], argTypes := ts })
    (h : minmaxK false (evO env x) (evO env y) (fun v => putK nt o.dst v env (fun env' => K env' H))) : OpOK P w0 nt o env H K := by
  refine ok_pureK _ ?_ h
  clear h
  intro w F M a r er K' h
  have hx := er.ev x
  have hy := er.ev y
  unfold minmaxK at h
  split at h
  · rename_i k n k' m e1 e2
    rw [e1] at hx; rw [e2] at hy
    refine ⟨_, .int k (min n m), ?_, .sc _, h⟩
    have : (if m < n then m else n) = min n m := by split <;> omega
    simp [execOp, ho, resolve, invoke, builtin, hx.sc_inv, hy.sc_inv, Builtin.min_, Builtin.min2, this]
  · exact h.elim

theorem ok_max {o : Oper} {env : Env} {H : Heap} {K : Env → Heap → Prop} {x y : Operand} {ts : Array TypeId} (ho : o.op = .call { callee := .builtin .max, args := #[x, y], argTypes := ts })
    (h : minmaxK true (evO env x) (evO env y) (fun v => putK nt o.dst v env (fun env' => K env' H))) : OpOK P w0 nt o env H K := by
  refine ok_pureK _ ?_ h
  clear h
  intro w F M a r er K' h
  have hx := er.ev x
  have hy := er.ev y
  unfold minmaxK at h
  split at h
  · rename_i k n k' m e1 e2
    rw [e1] at hx; rw [e2] at hy
    refine ⟨_, .int k (max n m), ?_, .sc _, h⟩
    have : (if n < m then m else n) = max n m := by split <;> omega
    simp [execOp, ho, resolve, invoke, builtin, hx.sc_inv, hy.sc_inv, Builtin.max_, Builtin.max2, this]
  · exact h.elim

/-- copy into a slice of an array of the heap. -/
def copyK (P : Program) (H : Heap) (t1 t2 : TypeId) (d x : AV) (K : AV → Heap → Prop) : Prop :=
  match slE P t1, slE P t2 with
  | some e, some _ => 0 < sz P e ∧
    match slLen x, slCells H (sz P e) x with
    | some m, some src =>
      match d with
      | .ref r off n top => match H r with
        | some (.arr es e' cells n') => n' = top ∧ es = sz P e ∧ off + n ≤ top ∧
            K (I (min m n : Nat)) (upd H r (some (.arr es e' (setL cells (off * es) (src.take (min m n * es))) n')))
        | _ => False
      | _ => False
    | _, _ => False
  | _, _ => False

/-- clear of a slice of an array of the heap. -/
def clearK (P : Program) (H : Heap) (t : TypeId) (d : AV) (K : AV → Heap → Prop) : Prop :=
  match slE P t with
  | some e => 0 < sz P e ∧
    match zer P e with
    | some zs => zs.all Value.oneCell' = true ∧ zs.length = sz P e ∧
      match d with
      | .ref r off n top => match H r with
        | some (.arr es e' cells n') => n' = top ∧ es = sz P e ∧ off + n ≤ top ∧
            K (.tup []) (upd H r (some (.arr es e' (setL cells (off * es) (zrep zs (n * es))) n')))
        | _ => False
      | _ => False
    | none => False
  | none => False

/-- A part of an array's cells is written; the world is as it is where there is nothing to write. -/
theorem write_part {w : World} {F : Ft} {M : Mt} {H : Heap} (r : Rel w0 w F M H) {rr off n top es : Nat} {e : TypeId} {cells vs : List AV} {cvs : List Value} {cv : Value} (hv : VR F M (.ref rr off n top) cv) (hH : H rr = some (.arr es e cells top))
    (hot : off + n ≤ top) (hvl : VRL F M vs cvs) (h1 : ∀ (i : Nat) (y : AV), vs[i]? = some y → y.one = true) (hl : vs.length ≤ n * es) :
    ∃ b c w', cv = .slice b n c ∧ Rel w0 w' F M (upd H rr (some (.arr es e (setL cells (off * es) vs) top))) ∧
      (match b with | some a => (storeCells a cvs).run P w = .ok () w' | none => vs = [] ∧ w' = w) := by
  obtain ⟨b, c, ab, cap, es0, rfl, hnc, hoc, hM, hcase⟩ := hv.ref_inv
  obtain ⟨hb1, hb2, a2, cap2, hM2, hb4, hb5, hb6⟩ := r.blk rr _ hH
  rw [hM] at hM2; cases hM2
  by_cases hn : vs = []
  · subst hn
    have hcv : cvs = [] := List.eq_nil_of_length_eq_zero (by simpa using hvl.1.symm)
    subst hcv
    refine ⟨b, c, w, rfl, ?_, ?_⟩
    · have : upd H rr (some (.arr es e (setL cells (off * es) []) top)) = H := by rw [setL, ← hH, upd_self]
      rw [this]; exact r
    · cases b with
      | none => exact ⟨rfl, rfl⟩
      | some a => rfl
  · have hvpos : 0 < vs.length := List.length_pos_iff.2 hn
    have hnpos : 0 < n := by
      rcases Nat.eq_zero_or_pos n with h0 | h0
      · subst h0; simp at hl; exact absurd hl hn
      · exact h0
    rcases hcase with hc0 | ⟨g, o', rfl, rfl⟩
    · omega
    · rcases hb6 with hb6 | ⟨g', o2, cs, e1, h7, hg, h9, hC⟩
      · omega
      · cases e1
        have hfit1 : off * es + n * es ≤ top * es := by rw [← Nat.add_mul]; exact Nat.mul_le_mul_right _ hot
        have hfit2 : top * es ≤ cap * es := Nat.mul_le_mul_right _ hb4
        have hlen := hvl.1
        have hrun := run_storeCells_at P g (o' + off * es) e cvs 0 cs w hg (by omega) (one_all hvl h1)
        simp only [Nat.add_zero] at hrun
        have hC' := VRC.setL (off := off * es) hC hvl h1 (by omega) (by omega)
        refine ⟨_, c, _, rfl, ?_, hrun⟩
        have hw := r.write (cells := cells) (cells' := setL cells (off * es) vs) hH rfl ⟨o', cap, es, hM, fun _ => by omega⟩ hM hg (.inl ⟨es, e, rfl⟩) (setL_length _ _ _) (by simp; omega) hC'
        have : setAt H rr (setL cells (off * es) vs) = upd H rr (some (.arr es e (setL cells (off * es) vs) top)) := by simp [setAt, hH]
        rw [this] at hw
        exact hw

theorem ok_copy {o : Oper} {env : Env} {H : Heap} {K : Env → Heap → Prop} {d x : Operand} {t1 t2 : TypeId} (ho : o.op = .call { callee := .builtin .copy, args := #[d, x], argTypes := #[t1, t2] })
    (h : copyK P H t1 t2 (evO env d) (evO env x) (fun v H' => putK nt o.dst v env (fun env' => K env' H'))) : OpOK P w0 nt o env H K := by
  refine op_heap ?_
  intro w F M a r er
  have hd := er.ev d
  have hx := er.ev x
  revert h hd hx
  generalize hdv : evO env d = dv
  generalize evO env x = xv
  intro h hd hx
  unfold copyK at h
  split at h <;> try exact h.elim
  rename_i e e2 he1 he2
  have hu1 := slE_eq he1
  obtain ⟨hz, h⟩ := h
  split at h <;> try exact h.elim
  rename_i m src hl hc
  obtain ⟨b2, c2, hcx, hm2, news, hvn, h1n, hln, hnews, hcell⟩ := src_ok (P := P) r hx hl hc
  split at h <;> try exact h.elim
  rename_i rr off n top
  split at h <;> try exact h.elim
  rename_i es e' cells n' hH
  obtain ⟨h1, h2, hot, k⟩ := h
  subst h1 h2
  -- what is copied
  have hmin : min m n * sz P e ≤ m * sz P e := Nat.mul_le_mul_right _ (Nat.min_le_left _ _)
  have hvt : VRL F M (src.take (min m n * sz P e)) (news.take (min m n * sz P e)) := by
    refine ⟨by simp [hvn.1], fun i av cv' ha hb => ?_⟩
    rw [List.getElem?_take] at ha hb
    split at ha
    · rename_i hlt; rw [if_pos hlt] at hb; exact hvn.2 i av cv' ha hb
    · cases ha
  have h1t : ∀ (i : Nat) (y : AV), (src.take (min m n * sz P e))[i]? = some y → y.one = true := by
    intro i y hy
    rw [List.getElem?_take] at hy
    split at hy
    · exact h1n i y hy
    · cases hy
  have hlt : (src.take (min m n * sz P e)).length ≤ n * sz P e := by
    rw [List.length_take]
    have : min m n * sz P e ≤ n * sz P e := Nat.mul_le_mul_right _ (Nat.min_le_right _ _)
    omega
  obtain ⟨b, c, w', hcd, hrel, hst⟩ := write_part (P := P) r hd hH hot hvt h1t hlt
  have hfc : (Builtin.firstCells (sz P e) (min m n) (.slice b2 m c2)).run P w = .ok (news.take (min m n * sz P e)).toArray w := by
    have hnl : news.length = m * sz P e := by rw [← hvn.1, hln]
    cases b2 with
    | none =>
      have h0 : news = [] := by
        cases news with
        | nil => rfl
        | cons v l => obtain ⟨ad, e0, _⟩ := hcell 0 v rfl; cases e0
      subst h0
      simp [Builtin.firstCells]
    | some ad =>
      refine run_firstCells_some w (sz P e) (min m n) ad m c2 _ (by rw [List.length_take, hnl]; omega) fun j v hj => ?_
      rw [List.getElem?_take] at hj
      split at hj
      · obtain ⟨ad', e0, hc'⟩ := hcell j v hj; cases e0; exact hc'
      · cases hj
  refine ⟨_, w', I (min m n : Nat), _, F, M, ?_, Ext.refl _ _, hrel, .sc _, k⟩
  have hmn : Nat.min m n = min m n := rfl
  cases b with
  | none =>
    simp only at hst
    obtain ⟨_, rfl⟩ := hst
    simp [execOp, ho, resolve, invoke, builtin, hcd, hcx, Builtin.copy_, run_underlying hu1, Builtin.lenOf, run_sizeOf hz, hmn, hfc, goInt]
  | some ad =>
    simp only at hst
    simp [execOp, ho, resolve, invoke, builtin, hcd, hcx, Builtin.copy_, run_underlying hu1, Builtin.lenOf, run_sizeOf hz, hmn, hfc, hst, goInt]

theorem zeroCells_VRL (F : Ft) (M : Mt) {zs : List Value} {z : Array Value} (e : z.toList = zs) (n : Nat) : VRL F M (zrep zs (n * zs.length)) (Builtin.zeroCells z n).toList := by
  have hsz : z.size = zs.length := by rw [← e]; simp
  refine ⟨by simp [zrep, Builtin.zeroCells, hsz], fun i av cv ha hb => ?_⟩
  have hi : i < n * zs.length := by have := (List.getElem?_eq_some_iff.1 ha).1; simpa [zrep_length] using this
  have hpos : 0 < zs.length := by
    rcases Nat.eq_zero_or_pos zs.length with h | h
    · rw [h] at hi; simp at hi
    · exact h
  have hm : i % zs.length < zs.length := Nat.mod_lt _ hpos
  simp only [zrep, List.getElem?_map, List.getElem?_range hi, Option.map_some, Option.some.injEq] at ha
  subst ha
  have hi' : i < n * z.size := by rw [hsz]; exact hi
  have hm' : i % z.size < z.size := by rw [hsz]; exact hm
  have hrg : (Array.range (n * z.size))[i]? = some i := by simp [hi']
  simp only [Builtin.zeroCells, Array.getElem?_toList, Array.getElem?_map, hrg, Option.map_some, Option.some.injEq, getElem!_pos z (i % z.size) hm'] at hb
  have hgd : zs.getD (i % zs.length) undef = cv := by
    subst e
    rw [← hb]
    simp [List.getD_eq_getElem?_getD, hm']
  rw [hgd]; exact .sc _

theorem zrep_ones {zs : List Value} (h : zs.all Value.oneCell' = true) (n : Nat) (hne : zs ≠ [] ∨ n = 0) : ∀ (i : Nat) (y : AV), (zrep zs n)[i]? = some y → y.one = true := by
  intro i y hy
  exact (VRC_zrep (fun _ => none) (fun _ _ => none) h n hne (z := zs.toArray) rfl i y hy).1

theorem ok_clear {o : Oper} {env : Env} {H : Heap} {K : Env → Heap → Prop} {d : Operand} {t : TypeId} (ho : o.op = .call { callee := .builtin .clear, args := #[d], argTypes := #[t] })
    (h : clearK P H t (evO env d) (fun v H' => putK nt o.dst v env (fun env' => K env' H'))) : OpOK P w0 nt o env H K := by
  refine op_heap ?_
  intro w F M a r er
  have hd := er.ev d
  revert h hd
  generalize evO env d = dv
  intro h hd
  unfold clearK at h
  split at h <;> try exact h.elim
  rename_i e he1
  have hu1 := slE_eq he1
  obtain ⟨hz, h⟩ := h
  split at h <;> try exact h.elim
  rename_i zs hzs
  obtain ⟨i, z, hi, hzz, hcs⟩ := zer_eq hzs
  obtain ⟨hone, hlen, h⟩ := h
  split at h <;> try exact h.elim
  rename_i rr off n top
  split at h <;> try exact h.elim
  rename_i es e' cells n' hH
  obtain ⟨h1, h2, hot, k⟩ := h
  subst h1 h2
  have hne : zs ≠ [] := by intro e0; rw [e0] at hlen; simp at hlen; omega
  have hvl := zeroCells_VRL F M hcs n
  rw [hlen] at hvl
  obtain ⟨b, c, w', hcd, hrel, hst⟩ := write_part (P := P) r hd hH hot hvl (zrep_ones hone _ (.inl hne)) (by rw [zrep_length]; exact Nat.le_refl _)
  have hzv : (zeroValue e).run P w = .ok z w := by simp [zeroValue, typeInfo, hi, hzz]
  refine ⟨.tuple #[], w', .tup [], _, F, M, ?_, Ext.refl _ _, hrel, .tup (fun _ => undef) rfl (by simp) (by simp), k⟩
  cases b with
  | none =>
    simp only at hst
    obtain ⟨_, rfl⟩ := hst
    simp [execOp, ho, resolve, invoke, builtin, hcd, Builtin.clear_, run_underlying hu1]
  | some ad =>
    simp only at hst
    cases n with
    | zero =>
      have : w' = w := by
        have h0 : (Builtin.zeroCells z.cells 0).toList = [] := by simp [Builtin.zeroCells]
        rw [h0] at hst
        simp [storeCells] at hst
        exact hst.symm
      subst this
      simp [execOp, ho, resolve, invoke, builtin, hcd, Builtin.clear_, run_underlying hu1]
    | succ n =>
      simp [execOp, ho, resolve, invoke, builtin, hcd, Builtin.clear_, run_underlying hu1, hzv, hst]

def callK (P : Program) (w0 : World) (H : Heap) (f : AV) (args : List AV) (K : AV → Heap → Prop) : Prop :=
  match f with
  | .clo fid first caps => ACalls P w0 fid (first ++ args ++ caps) H K
  | _ => False

theorem ok_call {o : Oper} {env : Env} {H : Heap} {K : Env → Heap → Prop} {f : Operand} {args : Array Operand} {ts : Array TypeId} (ho : o.op = .call { callee := .value f, args := args, argTypes := ts })
    (h : callK P w0 H (evO env f) (args.toList.map fun x => wk (evO env x)) (fun v H' => putK nt o.dst v env (fun env' => K env' H'))) : OpOK P w0 nt o env H K := by
  intro w F M a r er next Q hn
  have hf := er.ev f
  revert h hf
  generalize evO env f = fv
  intro h hf
  unfold callK at h
  split at h <;> try exact h.elim
  rename_i fid first caps
  obtain ⟨hcb, h⟩ := h
  generalize hcf : a.eval f = cf at hf
  cases hf with
  | clo ff gg hs ht h1 h2 h3 h4 =>
    rename_i cs ds
    have hvl : VRL F M (first ++ (args.toList.map fun x => wk (evO env x)) ++ caps) (cs ++ args.map a.eval ++ ds).toList := by
      simp only [Array.toList_append, Array.toList_map]
      refine (VRL.append (VRL.append (VRL.of hs h1 h2) (VRL.map _ fun x _ => (er.ev x).wk)) (VRL.of ht h3 h4))
    have hcalls := h w F M (cs ++ args.map a.eval ++ ds) r hvl
    have hrun : (execOp a.eval o).run P w = .ok (.enter fid (cs ++ args.map a.eval ++ ds)) w := by
      unfold callable at hcb
      cases hfn : P.funcs[fid]? with
      | none => rw [hfn] at hcb; cases hcb
      | some fn =>
        rw [hfn] at hcb
        simp only [Bool.and_eq_true, bne_iff_ne, ne_eq] at hcb
        obtain ⟨hnm, hbody⟩ := hcb
        obtain ⟨c, hc⟩ := Option.isSome_iff_exists.1 hbody
        simp [execOp, ho, resolve, Deferred.ofValue, hcf, invoke, callFunc, hfn, hnm, hc]
    unfold Oper.wp
    rw [hrun, Oper.upon_enter]
    refine hcalls.mono ?_
    rintro e w' ⟨v, cv, H', F', M', rfl, x, r', hv, k⟩
    obtain ⟨env', er', k'⟩ := put_ok (er.mono x) hv k
    exact hn env' H' F' M' _ _ x r' er' k'
end
end Go.Am
