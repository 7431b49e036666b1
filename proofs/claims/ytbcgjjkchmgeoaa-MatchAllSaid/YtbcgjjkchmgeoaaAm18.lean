/- The abstract machine, part 18: a region walked operation by operation. -/
import Derived.Test.YtbcgjjkchmgeoaaAm17
namespace Go.Am
open Go
set_option linter.unusedVariables false

section
variable {P : Program} {w0 : World} {nt : Nat}

attribute [simp] undef Value.oneCell' slCells setL cellsAt setAt upd_upd isCall

/-- An array of the call's own, handed out. -/
theorem frz {v x : AV} {H H' : Heap} {r es n : Nat} {e : TypeId} {cells : List AV} (hr : H r = none) (hv : v = .ref r 0 n n) (hH : H' = upd H r (some (.arr es e cells n))) (hx : cut es cells 0 n = x) :
    (v = x ∧ Sub H H') ∨ ∃ r off len top es e cells, v = .ref r off len top ∧ H' r = some (.arr es e cells top) ∧ cut es cells off len = x ∧ Sub H (upd H' r none) := by
  refine .inr ⟨r, 0, n, n, es, e, cells, hv, by rw [hH, upd_same], hx, ?_⟩
  rw [hH, upd_upd]
  exact (Sub.refl H).upd hr _
@[simp] theorem cut_map {α : Type} (f : α → AV) (l : List α) : cut 1 (l.map f) 0 l.length = .sl (l.map f) l.length := by
  simp only [cut, List.drop_zero, Nat.mul_one]
  rw [List.take_of_length_le (by simp)]
@[simp] theorem cut_all {cells : List AV} {n : Nat} (h : cells.length ≤ n) : cut 1 cells 0 n = .sl cells n := by
  simp only [cut, List.drop_zero, Nat.mul_one]
  rw [List.take_of_length_le h]
@[simp] theorem take_len_map {α β : Type} (f : α → β) (l : List α) : List.take l.length (List.map f l) = List.map f l := by
  rw [List.take_of_length_le (by simp)]
theorem Ret.use_eq {f : FuncId} {args args' : List AV} {x : AV} (h : Ret P w0 f args x) (e : args' = args) {H : Heap} {K : AV → Heap → Prop} (k : K x H) : ACalls P w0 f args' H K := by
  subst e; exact h.use k
@[simp] theorem cut_nil (es : Nat) : cut es [] 0 0 = .sl [] 0 := by simp [cut]
/-- How many elements the slice in a slot has. -/
def lenA (v : AV) : Nat := (slLen v).getD 0
theorem set_next {α : Type} (A : List α) (m : Nat) (z v : α) : (A ++ List.replicate (m + 1) z).set A.length v = (A ++ [v]) ++ List.replicate m z := by
  rw [List.set_append_right _ _ (Nat.le_refl _)]
  simp [List.replicate_succ]
theorem ret_frz {f : FuncId} {args : List AV} {x : AV} {H : Heap} (h : ACalls P w0 f args H (fun v H' => (v = x ∧ Sub H H') ∨ ∃ r off len top es e cells, v = .ref r off len top ∧ H' r = some (.arr es e cells top) ∧ cut es cells off len = x ∧ Sub H (upd H' r none))) :
    ACalls P w0 f args H (fun v H' => v = x ∧ Sub H H') := h.freeze

theorem acalls_frzG {f : FuncId} {pre post : List AV} {H : Heap} {K : AV → Heap → Prop} {r off len top es : Nat} {e : TypeId} {cells : List AV} (hH : H r = some (.arr es e cells top))
    (h : ACalls P w0 f (pre ++ cut es cells off len :: post) (upd H r none) K) : ACalls P w0 f (pre ++ .ref r off len top :: post) H K := by
  refine ⟨h.1, fun w F M cargs hr hv => ?_⟩
  obtain ⟨F2, x, rel', hv'⟩ := hr.freezeArr hH
  refine (h.2 w F2 M cargs rel' ?_).mono ?_
  · refine ⟨by simpa using hv.1, fun i av cv a b => ?_⟩
    rw [List.getElem?_append] at a
    by_cases hi : i < pre.length
    · rw [if_pos hi] at a
      exact (hv.2 i av cv (by rw [List.getElem?_append_left hi]; exact a) b).mono x
    · rw [if_neg hi] at a
      cases hk : i - pre.length with
      | zero =>
        rw [hk] at a
        simp at a
        subst a
        exact hv' _ _ _ (hv.2 i _ cv (by rw [List.getElem?_append_right (by omega), hk]; rfl) b)
      | succ k =>
        rw [hk] at a
        simp at a
        exact (hv.2 i av cv (by rw [List.getElem?_append_right (by omega), hk]; simpa using a) b).mono x
  · rintro e' w' ⟨v, cv, H', F', M', a, b, c, d, k⟩
    exact ⟨v, cv, H', F', M', a, x.trans b, c, d, k⟩

/-- The first argument is an array of the call's own, from now on a list. -/
theorem acalls_frz1 {f : FuncId} {post : List AV} {H : Heap} {K : AV → Heap → Prop} {r off len top es : Nat} {e : TypeId} {cells : List AV}
    (h : ACalls P w0 f (cut es cells off len :: post) (upd H r none) K) : ACalls P w0 f (.ref r off len top :: post) (upd H r (some (.arr es e cells top))) K :=
  acalls_frzG (pre := []) (upd_same _ _ _) (by rw [upd_upd]; exact h)
theorem acalls_frz2 {f : FuncId} {x : AV} {post : List AV} {H : Heap} {K : AV → Heap → Prop} {r off len top es : Nat} {e : TypeId} {cells : List AV}
    (h : ACalls P w0 f (x :: cut es cells off len :: post) (upd H r none) K) : ACalls P w0 f (x :: .ref r off len top :: post) (upd H r (some (.arr es e cells top))) K :=
  acalls_frzG (pre := [x]) (upd_same _ _ _) (by rw [upd_upd]; exact h)

/-- An array in a slot is a list from now on. -/
theorem awp_frz {c : Code} {Q : Exit → Env → Heap → Prop} {env : Env} {H : Heap} (s : Nat) {r n es : Nat} {e : TypeId} {cells : List AV} (hs : env s = .ref r 0 n n) (hr : H r = none)
    (h : ∀ env', env' s = cut es cells 0 n → (∀ i, i ≠ s → env' i = env i) → AWP P w0 nt c Q env' H) : AWP P w0 nt c Q env (upd H r (some (.arr es e cells n))) := by
  refine awp_freeze s hs (upd_same _ _ _) ?_
  rw [upd_upd, upd_none_self hr]
  exact h _ (upd_same _ _ _) fun i hi => upd_ne _ _ _ hi

/-- A loop whose state is put into another form first in each round. -/
theorem awp_loop_prep {c : Code} {Q : Exit → Env → Heap → Prop} {env : Env} {H : Heap} (J J0 : Env → Heap → Prop) (μ : Env → Heap → Nat) (h0 : J0 env H)
    (prep : ∀ env H, J0 env H → ∀ Q', (∀ env' H', J env' H' → μ env' H' = μ env H → AWP P w0 nt c Q' env' H') → AWP P w0 nt c Q' env H)
    (round : ∀ env H, J env H → AWP P w0 nt c (Then (fun env' H' => J0 env' H' ∧ μ env' H' < μ env H) Q) env H) : AWP P w0 nt (.loop c) Q env H := by
  refine awp_loop J0 μ h0 fun env H j => prep env H j _ fun env' H' j' e => ?_
  rw [← e]
  exact round env' H' j'

/-- A list in a slot: one that never changes, or an array of the call's own. -/
def listIn (H : Heap) (s : Nat) (x : List Int) (env : Env) (h : Heap) : Prop :=
  (env s = ints x ∧ h = H) ∨ ∃ r, H r = none ∧ env s = .ref r 0 x.length x.length ∧ h = upd H r (some (.arr 1 3 (x.map I) x.length))

theorem listIn.prep {H : Heap} {s : Nat} {x : List Int} {env : Env} {h : Heap} (j : listIn H s x env h) {c : Code} {Q : Exit → Env → Heap → Prop}
    (k : ∀ env', env' s = ints x → (∀ i, i ≠ s → env' i = env i) → AWP P w0 nt c Q env' H) : AWP P w0 nt c Q env h := by
  rcases j with ⟨h1, rfl⟩ | ⟨r, hr, h1, rfl⟩
  · exact k env h1 fun _ _ => rfl
  · refine awp_frz s h1 hr fun env' he he' => k env' ?_ he'
    rw [he, cut_map]

theorem imax (a b : Nat) : max (a : Int) (b : Int) = ((max a b : Nat) : Int) := by omega
theorem imin (a b : Nat) : min (a : Int) (b : Int) = ((min a b : Nat) : Int) := by omega

theorem post_normal {ts : List Tmp} {K : AV → Heap → Prop} {env : Env} {H : Heap} (h : K (resA ts env) H) : RetPost ts K .normal env H := h

theorem ACalls.sub {f : FuncId} {args : List AV} {H H' : Heap} {K : AV → Heap → Prop} (s : Sub H' H) (h : ACalls P w0 f args H' K) : ACalls P w0 f args H K :=
  ⟨h.1, fun w F M cargs hr hv => h.2 w F M cargs (hr.sub s) hv⟩
theorem sub_new {H : Heap} {r : Nat} {k : Option Blk} (h : H r = none) : Sub H (upd H r k) := (Sub.refl H).upd h k

@[simp] theorem zrep2_0 (a b : Value) : zrep [a, b] 0 = [] := rfl
@[simp] theorem zrep2_2 (a b : Value) : zrep [a, b] 2 = [.sc a, .sc b] := rfl
@[simp] theorem zrep2_4 (a b : Value) : zrep [a, b] 4 = [.sc a, .sc b, .sc a, .sc b] := by simp [zrep, List.range, List.range.loop]

/-- A word that says where one stands. -/
theorem at_reg (id : Nat) {l : Array Oper} {d : Bool} {y : Code} {Q : Exit → Env → Heap → Prop} {env : Env} {H : Heap} (h : AWP P w0 nt (.seq (.region id l d) y) Q env H) : AWP P w0 nt (.seq (.region id l d) y) Q env H := h

/-- The cells of a list of pairs. -/
theorem cut_pairs (es : List (Int × Int)) {n : Nat} (hn : n = es.length) : cut 2 (es.flatMap fun e => [I e.1, I e.2]) 0 n = pairs es := by
  subst hn
  have : (es.flatMap fun e => [I e.1, I e.2]).length = es.length * 2 := by
    induction es with
    | nil => rfl
    | cons e es ih => simp [ih, Nat.succ_mul]
  simp only [cut, Nat.zero_mul, List.drop_zero, pairs]
  rw [List.take_of_length_le (by omega)]

theorem then_any {n : Env → Heap → Prop} {Q : Exit → Env → Heap → Prop} {env : Env} {H : Heap} (h : n env H) : Then n Q .normal env H := h

theorem v_reg (own : List Nat) {id : Nat} {l : List Oper} {y : Code} {Q : Exit → Env → Heap → Prop} {env : Env} {H : Heap}
    (h : ∀ K : Env → Heap → Prop, (∀ e h, AWP P w0 nt y Q e h → K e h) → evalOps P w0 nt own l.toArray l env H K) : AWP P w0 nt (.seq (.region id l.toArray false) y) Q env H :=
  w_reg own fun K hK => h K hK
theorem v_reg1 (own : List Nat) {id : Nat} {l : List Oper} {Q : Exit → Env → Heap → Prop} {env : Env} {H : Heap}
    (h : ∀ K : Env → Heap → Prop, (∀ e h, Q .normal e h → K e h) → evalOps P w0 nt own l.toArray l env H K) : AWP P w0 nt (.region id l.toArray false) Q env H :=
  w_reg1 own fun K hK => h K hK
theorem v_draw (hm : P.follows .mixedOrders = true) (own st : List Nat) {id : Nat} {l : List Oper} {y : Code} {Q : Exit → Env → Heap → Prop} {env : Env} {H : Heap} (hok : okDraw own st nt l.toArray (List.range l.toArray.size) = true)
    (h : ∀ K : Env → Heap → Prop, (∀ e h, AWP P w0 nt y Q e h → K e h) → evalD P w0 nt own st l.toArray l env H K) : AWP P w0 nt (.seq (.region id l.toArray true) y) Q env H :=
  w_draw hm own st hok fun K hK => h K hK
theorem v_draw1 (hm : P.follows .mixedOrders = true) (own st : List Nat) {id : Nat} {l : List Oper} {Q : Exit → Env → Heap → Prop} {env : Env} {H : Heap} (hok : okDraw own st nt l.toArray (List.range l.toArray.size) = true)
    (h : ∀ K : Env → Heap → Prop, (∀ e h, Q .normal e h → K e h) → evalD P w0 nt own st l.toArray l env H K) : AWP P w0 nt (.region id l.toArray true) Q env H :=
  w_draw1 hm own st hok fun K hK => h K hK

section
variable {own st : List Nat} {ops : Array Oper} {rest : List Oper} {dst : Option Tmp} {op : Op} {t : TypeId} {pos : String} {after : Array Edge} {env : Env} {H : Heap} {K : Env → Heap → Prop}

theorem ev_nil (h : K env H) : evalOps P w0 nt own ops [] env H K := h
theorem ev_cons (h : ∀ K' : Env → Heap → Prop, (∀ e h, evalOps P w0 nt own ops rest e h K → K' e h) → evalOp P w0 nt own ⟨dst, op, t, "", #[], none⟩ env H K') :
    evalOps P w0 nt own ops (⟨dst, op, t, pos, after, none⟩ :: rest) env H K := h _ fun _ _ h => h
theorem ev_id {l : List Oper} (h : evalOps P w0 nt own ops l env H K) : evalOps P w0 nt own ops l env H K := h
theorem ev_guard {j d : Nat} {want : Bool} {l : List Oper} (hd : (l[j]?).bind (·.dst) = some d) (h : ∀ K' : Env → Heap → Prop, (∀ e h, evalOps P w0 nt own l.toArray rest e h K → K' e h) →
      wantA (some (some d, want)) env (fun env => evalOp P w0 nt own ⟨dst, op, t, "", #[], none⟩ env H K') (fun env => putK nt dst (.sc undef) env (fun env => K' env H))) :
    evalOps P w0 nt own l.toArray (⟨dst, op, t, pos, after, some (j, want)⟩ :: rest) env H K := by
  have := h _ fun _ _ h => h
  unfold evalOps stepA guardO
  simp only [List.getElem?_toArray, hd]
  exact this

theorem ed_nil (h : K env H) : evalD P w0 nt own st ops [] env H K := h
theorem ed_cons (h : ∀ K' : Env → Heap → Prop, (∀ e h, evalD P w0 nt own st ops rest e h K → K' e h) → evalOpD P w0 nt own st ⟨dst, op, t, "", #[], none⟩ env H K') :
    evalD P w0 nt own st ops (⟨dst, op, t, pos, after, none⟩ :: rest) env H K := h _ fun _ _ h => h
theorem ed_id {l : List Oper} (h : evalD P w0 nt own st ops l env H K) : evalD P w0 nt own st ops l env H K := h
theorem ed_guard {j d : Nat} {want : Bool} {l : List Oper} (hd : (l[j]?).bind (·.dst) = some d) (h : ∀ K' : Env → Heap → Prop, (∀ e h, evalD P w0 nt own st l.toArray rest e h K → K' e h) →
      wantA (some (some d, want)) env (fun env => evalOpD P w0 nt own st ⟨dst, op, t, "", #[], none⟩ env H K') (fun env => putK nt dst (.sc undef) env (fun env => K' env H))) :
    evalD P w0 nt own st l.toArray (⟨dst, op, t, pos, after, some (j, want)⟩ :: rest) env H K := by
  have := h _ fun _ _ h => h
  unfold evalD stepD guardO
  simp only [List.getElem?_toArray, hd]
  exact this
end
end
end Go.Am
