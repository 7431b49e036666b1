/- The abstract machine, part 16: from a contract to the row: arguments opened, the law's call closed. -/
import Derived.Test.YtbcgjjkchmgeoaaAm15
import Derived.Deep.Slices
import Derived.Carry
import Derived.ChangeOld
import Derived.OpenShut
import Derived.WalkKit
import Derived.ProofKit
import Derived.SizedLaws
namespace Go.Am
open Go Go.RowKit Go.ChangeShapes Go.WideShapes Go.Deep
set_option linter.unusedVariables false
set_option linter.unusedSimpArgs false

/-- All of the world that the law begins in stands still. -/
def FW (w0 : World) : Ft := fun b => w0.heap[b]?
def MW : Mt := fun _ _ => none
def HW : Heap := fun _ => none

theorem Rel.start (w0 : World) : Rel w0 w0 (FW w0) MW HW := by
  refine ⟨rfl, rfl, rfl, fun _ _ => rfl, fun _ _ h => h, ?_, ?_, ?_, ⟨0, fun _ _ => ⟨rfl, fun _ => rfl⟩⟩⟩ <;> simp [HW]

theorem law_closes {P : Program} {w0 : World} {f : FuncId} {args : List AV} {cargs : Array Value} (h : ACalls P w0 f args HW (fun v _ => v = B true))
    (hv : VRL (FW w0) MW args cargs.toList) : Calls P f cargs w0 fun e w' => e = .returned (.bool true) ∧ Below w0.heap.size w0 w' := by
  refine (h.2 w0 _ _ cargs (Rel.start w0) hv).mono ?_
  rintro e w' ⟨v, cv, H', F', M', he, _, hr, hvr, rfl⟩
  have := VR.sc_inv hvr
  subst this
  exact ⟨he, hr.below⟩

section
variable {H : Type}

/-- What a parameter's type says of its cells. -/
def Opens (H : Type) (enc : TypeId × Value → H) (P : Program) (w0 : World) (t : TypeId) {α : Type} (f : α → List AV) (Q : α → Prop) : Prop :=
  ∀ fuel cs (d : DataW H) ps, DataW.trod enc P w0 0 (fun _ => true) true fuel t cs = some (d, ps) → (∀ n ∈ d.weights P t, n ≤ reachBytes) →
    ∃ x : α, VRL (FW w0) MW (f x) cs ∧ (∀ a ∈ f x, a.one = true) ∧ Q x

variable {enc : TypeId × Value → H} {P : Program} {w0 : World}

theorem opens_int {t : TypeId} {k : IntKind} (ht : P.underlying t = some (.int k)) : Opens H enc P w0 t (fun n => [.sc (.int k n)]) (fun n => (Lit.int k n).wf = true) := by
  intro fuel cs d ps h _
  obtain ⟨n, rfl, _, hw⟩ := DataW.trod_int ht h
  exact ⟨n, .cons (.sc _) .nil, by simp [AV.one, Value.oneCell'], hw⟩

theorem opens_bool {t : TypeId} (ht : P.underlying t = some .bool) : Opens H enc P w0 t (fun b => [B b]) (fun _ => True) := by
  intro fuel cs d ps h _
  obtain ⟨b, rfl, _⟩ := DataW.trod_bool ht h
  exact ⟨b, .cons (.sc _) .nil, by simp [AV.one, Value.oneCell'], trivial⟩

theorem VRC.flat {F : Ft} {M : Mt} {α : Type} {f : α → List AV} {cs : Array Value} (m : Nat) : ∀ (l : List α) (o : Nat), (∀ x ∈ l, (f x).length = m) →
    (∀ (k : Nat) (x : α), l[k]? = some x → VRC F M (f x) cs (o + k * m)) → VRC F M (l.flatMap f) cs o
  | [], o, _, _ => by intro i av h; simp at h
  | x :: l, o, hm, h => by
    intro i av ha
    rw [List.flatMap_cons, List.getElem?_append] at ha
    have hx : (f x).length = m := hm x (by simp)
    rw [hx] at ha
    by_cases hi : i < m
    · rw [if_pos hi] at ha
      have := h 0 x rfl i av ha
      simpa using this
    · rw [if_neg hi] at ha
      have ih := VRC.flat (F := F) (M := M) (f := f) (cs := cs) m l (o + m) (fun y hy => hm y (by simp [hy]))
        (fun k y hy => by have := h (k + 1) y (by simpa using hy); rwa [Nat.succ_mul, Nat.add_comm (k * m) m, ← Nat.add_assoc] at this) (i - m) av ha
      have e : o + m + (i - m) = o + i := by omega
      rw [e] at ih; exact ih

theorem opens_slice {t e : TypeId} {α : Type} [Inhabited α] {f : α → List AV} {Q : α → Prop} (ht : P.underlying t = some (.slice e)) (he : Opens H enc P w0 e f Q) (hc : 0 < P.cellsOf e) :
    Opens H enc P w0 t (fun l : List α => [.sl (l.flatMap f) l.length]) (fun l => l.length * P.bytesOf e ≤ reachBytes ∧ ∀ x ∈ l, Q x) := by
  intro fuel cs d ps h hw
  rcases open_slice ht h with ⟨rfl, hx⟩ | ⟨a, len, cap, m, n, D, Pl, rfl, hb, hl, hm, hmm, hx, hxs⟩
  · exact ⟨[], .cons .sl0 .nil, by simp [AV.one], by simp⟩
  · simp only [if_true] at hmm
    subst hmm
    obtain ⟨rfl, rfl⟩ := Prod.mk.inj hx
    have hW : ∀ i, i < len → ∀ n ∈ (D i).weights P e, n ≤ reachBytes := by
      intro i hi n hn
      apply hw
      simp only [DataW.weights, ht]
      refine List.mem_cons_of_mem _ (List.mem_append_left _ ?_)
      have : ∀ (l : List (DataW H)) (d : DataW H), d ∈ l → n ∈ d.weights P e → n ∈ DataW.weightsAll P e l := by
        intro l; induction l with
        | nil => intro d hd; simp at hd
        | cons d' l ih =>
          intro d hd hn
          simp only [DataW.weightsAll, List.mem_append]
          rcases List.mem_cons.1 hd with rfl | hd
          · exact .inl hn
          · exact .inr (ih d hd hn)
      exact this _ (D i) (List.mem_map.2 ⟨i, List.mem_range.2 hi, rfl⟩) hn
    have hE : ∀ i, i < len → ∃ x : α, (∃ cs', w0.cells? 0 (a.add (i * P.cellsOf e)) (P.cellsOf e) = some cs' ∧ VRL (FW w0) MW (f x) cs') ∧ (∀ a ∈ f x, a.one = true) ∧ Q x := by
      intro i hi
      obtain ⟨cs', h1, h2⟩ := hxs i (by omega)
      obtain ⟨x, hx1, hx2, hx3⟩ := he _ _ _ _ h2 (hW i hi)
      exact ⟨x, ⟨cs', h1, hx1⟩, hx2, hx3⟩
    obtain ⟨X, hX⟩ := choose_lt hE
    have hsz : len * P.bytesOf e ≤ reachBytes := by
      have := hw ((((List.range len).map D).length + ((List.range (m - len)).map fun j => D (len + j)).length) * P.bytesOf e) (by simp [DataW.weights, ht])
      refine Nat.le_trans (Nat.mul_le_mul_right _ ?_) this
      simp
    refine ⟨(List.range len).map X, ?_, by simp [AV.one], by simpa using hsz, ?_⟩
    · by_cases h0 : len = 0
      · subst h0
        exact .cons (by simpa using VR.sl0) .nil
      have hlen : 0 < len := by omega
      obtain ⟨⟨cs0, hc0, _⟩, _⟩ := hX 0 hlen
      obtain ⟨_, hl0, hg0⟩ := World.cells?_some hc0
      have hcell := hg0 0 hc
      have hcs0 : ∃ v, cs0[0]? = some v := ⟨cs0[0], by simp⟩
      obtain ⟨v0, hv0⟩ := hcs0
      rw [hv0] at hcell
      simp only [Nat.zero_mul, Addr.add, if_true] at hcell
      obtain ⟨g, o, spot⟩ := a
      simp only [World.cell?] at hcell
      split at hcell
      case h_2 => simp at hcell
      rename_i c ty fz hb'
      have hsp : spot = none := by
        cases spot with
        | none => rfl
        | some s => simp at hcell
      subst hsp
      have hvrc : VRC (FW w0) MW (((List.range len).map X).flatMap f) c o := by
        refine VRC.flat (P.cellsOf e) _ _ ?_ ?_
        · intro x hx
          obtain ⟨i, hi, rfl⟩ := List.mem_map.1 hx
          obtain ⟨⟨cs', h1, h2⟩, _⟩ := hX i (List.mem_range.1 hi)
          rw [h2.1, (World.cells?_some h1).2.1]
        · intro k x hk
          have hk' : k < len := by
            have := (List.getElem?_eq_some_iff.1 hk).1
            simpa using this
          have hxk : x = X k := by
            simp [hk'] at hk; exact hk.symm
          subst hxk
          obtain ⟨⟨cs', h1, h2⟩, hone, _⟩ := hX k hk'
          obtain ⟨_, hl1, hg1⟩ := World.cells?_some h1
          intro j av hj
          obtain ⟨cv, hcv, hvr⟩ := h2.get hj
          refine ⟨hone _ (List.mem_of_getElem? hj), cv, ?_, hvr⟩
          have hjl : j < P.cellsOf e := by rw [← hl1]; exact (List.getElem?_eq_some_iff.1 hcv).1
          have := hg1 j hjl
          rw [hcv] at this
          rw [← this]
          have hadd : (Addr.add (Addr.add ⟨g, o, none⟩ (k * P.cellsOf e)) j) = ⟨g, o + k * P.cellsOf e + j, none⟩ := by
            unfold Addr.add
            split <;> split <;> simp_all
          rw [hadd]
          simp [World.cell?, hb']
      obtain ⟨fn, h1, h2, h3⟩ := hvrc.fn
      have hF : FW w0 g = some (.cells c ty fz) := hb'
      have := VR.sl (n := len) (c := m) fn hF hl h1 h2 h3
      refine .cons ?_ .nil
      simpa using this
    · intro x hx
      obtain ⟨i, hi, rfl⟩ := List.mem_map.1 hx
      exact (hX i (List.mem_range.1 hi)).2.2

theorem opens_map {t : TypeId} {α β : Type} {f : α → List AV} {Q : α → Prop} {g : β → List AV} {R : β → Prop} (u : α → β) (h : Opens H enc P w0 t f Q) (hf : ∀ x, Q x → g (u x) = f x) (hq : ∀ x, Q x → R (u x)) : Opens H enc P w0 t g R := by
  intro fuel cs d ps ht hw
  obtain ⟨x, h1, h2, h3⟩ := h fuel cs d ps ht hw
  exact ⟨u x, by rw [hf x h3]; exact h1, by rw [hf x h3]; exact h2, hq x h3⟩

theorem VRL.split {F : Ft} {M : Mt} {a b : List AV} {cs : List Value} {n m : Nat} (h : VRL F M a ((cs.drop 0).take n)) (k : VRL F M b ((cs.drop n).take m)) (hl : cs.length = n + m) : VRL F M (a ++ b) cs := by
  have := h.append k
  have e : (cs.drop 0).take n ++ (cs.drop n).take m = cs := by
    rw [List.drop_zero]
    have : (cs.drop n).take m = cs.drop n := List.take_of_length_le (by simp; omega)
    rw [this, List.take_append_drop]
  rwa [e] at this

/-- A law's arguments, all of them: abstract values that stand for them, and a contract that says true. -/
def Walks (H : Type) (enc : TypeId × Value → H) (P : Program) (n : FuncId) (ts : List TypeId) : Prop :=
  ∀ (w0 : World) (base : Nat) (cargs : Array Value) (ds : List (DataW H)) (ps : List MemPlace), DataW.TrodAll enc P w0 0 (fun _ => true) true ts cargs.toList ds ps →
    (∀ (j : Nat) t v, ts[j]? = some t → cargs[j]? = some v → Value.okWide P w0 .any base t v) →
    (∀ n ∈ DataW.weightsEach P ts ds, n ≤ reachBytes) → ∃ args, VRL (FW w0) MW args cargs.toList ∧ ACalls P w0 n args HW (fun v _ => v = B true)

theorem trodAll_back {W W' : World} (hl : laidOutB P = true) (hb : Below W.heap.size W W') : ∀ (ts : List TypeId) (vs : List Value) (ds : List (DataW H)) (ps : List MemPlace),
    (∀ t ∈ ts, P.readableRec t = true ∧ t < P.types.size) → DataW.TrodAll enc P W 0 (fun _ => true) true ts vs ds ps → DataW.TrodAll enc P W' 0 (fun b => decide (b < W.heap.size)) true ts vs ds ps
  | [], vs, ds, ps, _, h => by
    obtain ⟨rfl, rfl, rfl⟩ := trodAll_nil h
    simp [DataW.TrodAll]
  | t :: ts, vs, ds, ps, ht, h => by
    obtain ⟨v, vs', d, ds', p, q, rfl, rfl, rfl, h1, h2⟩ := trodAll_cons h
    refine ⟨p, q, ?_, trodAll_back hl hb ts _ _ _ (fun u hu => ht u (by simp [hu])) h2, rfl⟩
    refine Below.trod hl (ht t (by simp)).1 (ht t (by simp)).2 h1 hb ?_
    obtain ⟨m, hm⟩ := h1
    exact fun x hx => DataW.trod_lt m _ _ _ hm x hx

theorem law_lifted {C : Checked} {spec : ChangeSpec} {n : FuncId} {fn : Func} {ts : List TypeId} {rt : TypeId} {dom : List PathCond} {os : Os} (own : ownKnob C.prog.godebug = none) (started : os.Started)
    (noInit : C.prog.inits.idxOf? n = none) (hfn : C.prog.funcs[n]? = some fn) (hp : fn.params.toList = ts) (hr : fn.resultTypes = #[rt]) (hu : C.prog.underlying rt = some .bool)
    (hvars : spec.vars = []) (hspec : ∀ ds : List (DataW H), ds.length = ts.length → spec.fn H ds = { results := [.lit (.bool true)], args := ds })
    (hl : laidOutB C.prog = true) (hread : (ts.all fun t => C.prog.readableRec t && decide (t < C.prog.types.size)) = true)
    (witness : ∃ (w : World) (tape : Tape) (i : Input), w.os = os ∧ (w.forCall tape i).Shaped C.prog ∧ i.vars = [] ∧ Input.okWide C.prog (w.forCall tape i) .any w.heap.size n i ∧
      spec.pre6 enc C.prog fn dom false (w.forCall tape i).memory i.args ∧ ({} : Assume).holds C.prog (lone (Frame.enter C.prog n i.args .normal) [] (w.forCall tape i)))
    (walk : Walks H enc C.prog n ts) : ReturnsInHanded {} C os n .any (spec.pre6 enc C.prog fn dom false) (spec.post enc C.prog fn false true false false) := by
  refine returnsInHanded_of_change_sized own started noInit hfn witness ?_
  intro W base args ds gs before hval hW hcnd hsz _
  have hW' := hW
  obtain ⟨p, q, hA, hV, rfl, hfz, hnd⟩ := hW
  rw [hvars] at hV
  obtain ⟨rfl, rfl⟩ := trodVars_none hV
  rw [hp] at hA
  have hlen : ds.length = ts.length := by
    have : ∀ (ts : List TypeId) (vs : List Value) (ds : List (DataW H)) (ps : List MemPlace), DataW.TrodAll enc C.prog W 0 (fun _ => true) true ts vs ds ps → ds.length = ts.length := by
      intro ts
      induction ts with
      | nil => intro vs ds ps h; obtain ⟨_, rfl, _⟩ := trodAll_nil h; rfl
      | cons t ts ih =>
        intro vs ds ps h
        obtain ⟨v, vs', d, ds', p, q, rfl, rfl, rfl, h1, h2⟩ := trodAll_cons h
        simp [ih _ _ _ h2]
    exact this _ _ _ _ hA
  have hpts : ∀ (j : Nat) (t : TypeId), ts[j]? = some t → fn.params[j]? = some t := by
    intro j t h; rw [← hp] at h; simpa using h
  have hz : ∀ n ∈ DataW.weightsEach C.prog ts ds, n ≤ reachBytes := by
    have e : spec.plain.varTypes C.prog = [] := by simp [ChangeSpec.plain, DataSpec.varTypes, hvars]
    rw [e, List.append_nil, List.append_nil, hp] at hsz
    intro n hn
    have := List.all_eq_true.1 hsz n hn
    simpa using this
  obtain ⟨avs, hvr, hc⟩ := walk W base args ds p hA (fun j t v h1 h2 => hval j t v (hpts j t h1) h2) hz
  refine (law_closes hc hvr).mono ?_
  rintro e W' ⟨rfl, bel⟩
  refine ⟨.bool true, rfl, ds, [], p ++ [], [], p, [], hW', ?_, ?_, ?_, bel.frame _, fun h => by cases h⟩
  · rw [List.append_nil, hspec ds hlen, hr]
    exact trodAll_mk1 (shut_bool hu _)
  · rw [List.append_nil, hspec ds hlen, hp]
    refine trodAll_back hl bel ts _ _ _ (fun t ht => ?_) hA
    have := List.all_eq_true.1 hread t ht
    simpa using this
  · rw [List.append_nil, hspec ds hlen, hvars]
    simp [DataW.TrodVars]
end
end Go.Am
