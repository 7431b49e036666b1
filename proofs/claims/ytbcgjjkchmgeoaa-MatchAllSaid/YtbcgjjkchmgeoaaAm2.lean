/- The abstract machine, part 2: what is asked of code and of calls; sequence, branch, block, loop, return. -/
import Derived.Test.YtbcgjjkchmgeoaaAm1
namespace Go.Am
open Go

section
variable (P : Program) (w0 : World)

def Post (nt : Nat) (F : Ft) (M : Mt) (Q : Exit → Env → Heap → Prop) : Exit → Act → World → Prop := fun e a w =>
  ∃ env H F' M', Ext F F' M M' ∧ Rel w0 w F' M' H ∧ EnvR F' M' nt env a ∧ Q e env H

/-- From every world that stands as env and H say, the code comes to Q. -/
def AWP (nt : Nat) (c : Code) (Q : Exit → Env → Heap → Prop) (env : Env) (H : Heap) : Prop :=
  ∀ w F M a, Rel w0 w F M H → EnvR F M nt env a → c.wp P (Post w0 nt F M Q) a w

def Returns (F : Ft) (M : Mt) (K : AV → Heap → Prop) : Ending → World → Prop := fun e w =>
  ∃ v cv H F' M', e = .returned cv ∧ Ext F F' M M' ∧ Rel w0 w F' M' H ∧ VR F' M' v cv ∧ K v H

/-- A Go function with a body of its own. -/
def callable (f : FuncId) : Bool :=
  match P.funcs[f]? with
  | some fn => fn.name != "runtime.NumGoroutine" && fn.body.isSome
  | none => false

/-- The call comes back, with v and H of which K holds. -/
def ACalls (f : FuncId) (args : List AV) (H : Heap) (K : AV → Heap → Prop) : Prop :=
  callable P f = true ∧ ∀ w F M cargs, Rel w0 w F M H → VRL F M args cargs.toList → Calls P f cargs w (Returns w0 F M K)
end

section
variable {P : Program} {w0 : World} {nt : Nat}

theorem ACalls.mono {f : FuncId} {args : List AV} {H : Heap} {K K' : AV → Heap → Prop} (h : ACalls P w0 f args H K) (hk : ∀ v H', K v H' → K' v H') : ACalls P w0 f args H K' := by
  refine ⟨h.1, fun w F M cargs hr hv => (h.2 w F M cargs hr hv).mono ?_⟩
  rintro e w' ⟨v, cv, H', F', M', a, b, c, d, k⟩
  exact ⟨v, cv, H', F', M', a, b, c, d, hk v H' k⟩

/-- What the call leaves behind beyond the blocks that are named is nobody's. -/
theorem ACalls.drop {f : FuncId} {args : List AV} {H : Heap} {K K' : AV → Heap → Prop} (h : ACalls P w0 f args H K) (hk : ∀ v H', K v H' → ∃ H'', Sub H'' H' ∧ K' v H'') : ACalls P w0 f args H K' := by
  refine ⟨h.1, fun w F M cargs hr hv => (h.2 w F M cargs hr hv).mono ?_⟩
  rintro e w' ⟨v, cv, H', F', M', a, b, c, d, k⟩
  obtain ⟨H'', s, k'⟩ := hk v H' k
  exact ⟨v, cv, H'', F', M', a, b, c.sub s, d, k'⟩

theorem Post.mono {F F' : Ft} {M M' : Mt} {Q Q' : Exit → Env → Heap → Prop} (x : Ext F F' M M') (hq : ∀ e env H, Q e env H → Q' e env H) {e : Exit} {a : Act} {w : World}
    (h : Post w0 nt F' M' Q e a w) : Post w0 nt F M Q' e a w := by
  obtain ⟨env, H, F1, M1, x1, r, er, q⟩ := h
  exact ⟨env, H, F1, M1, x.trans x1, r, er, hq _ _ _ q⟩

theorem AWP.mono {c : Code} {Q Q' : Exit → Env → Heap → Prop} {env : Env} {H : Heap} (h : AWP P w0 nt c Q env H) (hq : ∀ e env H, Q e env H → Q' e env H) : AWP P w0 nt c Q' env H :=
  fun w F M a r er => Code.wp_mono (fun _ _ _ p => p.mono (Ext.refl _ _) hq) (h w F M a r er)

theorem AWP.sub {c : Code} {Q : Exit → Env → Heap → Prop} {env : Env} {H H' : Heap} (s : Sub H' H) (h : AWP P w0 nt c Q env H') : AWP P w0 nt c Q env H :=
  fun w F M a r er => h w F M a (r.sub s) er

def Then (next : Env → Heap → Prop) (Q : Exit → Env → Heap → Prop) : Exit → Env → Heap → Prop
  | .normal, env, H => next env H
  | e, env, H => Q e env H

def InBlock (id : Nat) (Q : Exit → Env → Heap → Prop) : Exit → Env → Heap → Prop
  | .exit id', env, H => if id' = id then Q .normal env H else Q (.exit id') env H
  | e, env, H => Q e env H

theorem awp_seq {x y : Code} {Q : Exit → Env → Heap → Prop} {env : Env} {H : Heap} (h : AWP P w0 nt x (Then (AWP P w0 nt y Q) Q) env H) : AWP P w0 nt (.seq x y) Q env H := by
  intro w F M a r er
  refine wp_seq (Code.wp_mono ?_ (h w F M a r er))
  rintro e a' w' ⟨env', H', F', M', x1, r', er', q⟩
  cases e with
  | normal => exact Code.wp_mono (fun _ _ _ p => p.mono x1 (fun _ _ _ q => q)) (q w' F' M' a' r' er')
  | _ => exact ⟨env', H', F', M', x1, r', er', q⟩

theorem awp_skip {Q : Exit → Env → Heap → Prop} {env : Env} {H : Heap} (h : Q .normal env H) : AWP P w0 nt .skip Q env H :=
  fun _ F M _ r er => wp_skip ⟨env, H, F, M, Ext.refl _ _, r, er, h⟩
theorem awp_label {l : Nat} {Q : Exit → Env → Heap → Prop} {env : Env} {H : Heap} (h : Q .normal env H) : AWP P w0 nt (.label l) Q env H :=
  fun _ F M _ r er => wp_label ⟨env, H, F, M, Ext.refl _ _, r, er, h⟩
theorem awp_exit {id : Nat} {Q : Exit → Env → Heap → Prop} {env : Env} {H : Heap} (h : Q (.exit id) env H) : AWP P w0 nt (.exit id) Q env H :=
  fun _ F M _ r er => wp_exit ⟨env, H, F, M, Ext.refl _ _, r, er, h⟩
theorem awp_ret {Q : Exit → Env → Heap → Prop} {env : Env} {H : Heap} (h : Q .ret env H) : AWP P w0 nt .ret Q env H :=
  fun _ F M _ r er => wp_ret ⟨env, H, F, M, Ext.refl _ _, r, er, h⟩

theorem awp_block {id : Nat} {c : Code} {Q : Exit → Env → Heap → Prop} {env : Env} {H : Heap} (h : AWP P w0 nt c (InBlock id Q) env H) : AWP P w0 nt (.block id c) Q env H := by
  intro w F M a r er
  refine wp_block (Code.wp_mono ?_ (h w F M a r er))
  rintro e a' w' ⟨env', H', F', M', x1, r', er', q⟩
  cases e with
  | exit id' =>
    simp only [InBlock] at q
    simp only [Exit.inBlock]
    split at q
    · rename_i e; rw [if_pos e]; exact ⟨env', H', F', M', x1, r', er', q⟩
    · rename_i e; rw [if_neg e]; exact ⟨env', H', F', M', x1, r', er', q⟩
  | _ => exact ⟨env', H', F', M', x1, r', er', q⟩

/-- An operand. -/
def evO (env : Env) : Operand → AV
  | .tmp t => env t
  | .const v => .sc v
  | .global g => .sc (.pointer (some ⟨g, 0, none⟩))
  | .func f => .clo f [] []

theorem EnvR.ev {F : Ft} {M : Mt} {env : Env} {a : Act} (h : EnvR F M nt env a) (x : Operand) : VR F M (evO env x) (a.eval x) := by
  cases x with
  | tmp t => exact h.slot t
  | const v => exact .sc v
  | global g => exact .sc _
  | func f => exact .clo (fun _ => undef) (fun _ => undef) rfl rfl (by simp) (by simp) (by simp) (by simp)

abbrev B (b : Bool) : AV := .sc (.bool b)
abbrev I (n : Int) : AV := .sc (.int .i64 n)

theorem VR.sc_inv {F : Ft} {M : Mt} {v cv : Value} (h : VR F M (.sc v) cv) : cv = v := by cases h; rfl

theorem awp_cond {c : Operand} {x y : Code} {Q : Exit → Env → Heap → Prop} {env : Env} {H : Heap} {t : Bool} (hc : evO env c = B t)
    (h1 : t = true → AWP P w0 nt x Q env H) (h2 : t = false → AWP P w0 nt y Q env H) : AWP P w0 nt (.cond c x y) Q env H := by
  intro w F M a r er
  have e : a.eval c = .bool t := by have := er.ev c; rw [hc] at this; exact this.sc_inv
  exact wp_cond_split e (fun ht => h1 ht w F M a r er) (fun ht => h2 ht w F M a r er)

theorem awp_loop {c : Code} {Q : Exit → Env → Heap → Prop} {env : Env} {H : Heap} (J : Env → Heap → Prop) (μ : Env → Heap → Nat) (h0 : J env H)
    (round : ∀ env H, J env H → AWP P w0 nt c (Then (fun env' H' => J env' H' ∧ μ env' H' < μ env H) Q) env H) : AWP P w0 nt (.loop c) Q env H := by
  intro w F M a r er
  let T : Nat → Act → World → Prop := fun n a w => ∃ env H F' M', Ext F F' M M' ∧ Rel w0 w F' M' H ∧ EnvR F' M' nt env a ∧ J env H ∧ μ env H = n
  have dec : ∀ a w, Decidable (∃ n, T n a w) := fun a w => Classical.propDecidable _
  have least : ∀ a w, (∃ n, T n a w) → ∃ n, T n a w ∧ ∀ m, T m a w → n ≤ m := by
    intro a w ⟨n, hn⟩
    induction n using Nat.strongRecOn with
    | _ n ih =>
      by_cases hm : ∃ m, m < n ∧ T m a w
      · obtain ⟨m, hlt, hT⟩ := hm; exact ih m hlt hT
      · exact ⟨n, hn, fun m hT => by
          rcases Nat.lt_or_ge m n with h | h
          · exact absurd ⟨m, h, hT⟩ hm
          · exact h⟩
  let ν : Act → World → Nat := fun a w => if h : ∃ n, T n a w then Classical.choose (least a w h) else 0
  have hν : ∀ a w, (h : ∃ n, T n a w) → T (ν a w) a w ∧ ∀ m, T m a w → ν a w ≤ m := by
    intro a w h
    have := Classical.choose_spec (least a w h)
    simp only [ν, dif_pos h]
    exact this
  refine wp_loop (fun a w => ∃ n, T n a w) ν ⟨μ env H, env, H, F, M, Ext.refl _ _, r, er, h0, rfl⟩ ?_
  intro a1 w1 hI
  obtain ⟨⟨env1, H1, F1, M1, x1, r1, er1, j1, e1⟩, _⟩ := hν a1 w1 hI
  refine Code.wp_mono ?_ (round env1 H1 j1 w1 F1 M1 a1 r1 er1)
  rintro e a' w' ⟨env', H', F', M', x', r', er', q⟩
  cases e with
  | normal =>
    have hT : T (μ env' H') a' w' := ⟨env', H', F', M', x1.trans x', r', er', q.1, rfl⟩
    refine ⟨⟨_, hT⟩, ?_⟩
    have := (hν a' w' ⟨_, hT⟩).2 _ hT
    have := q.2
    omega
  | _ => exact ⟨env', H', F', M', x1.trans x', r', er', q⟩

/-- A slice that is handed on: whether it is nil, and what its capacity is, is forgotten. -/
def wk : AV → AV
  | .sc v => match v with
    | .slice none 0 0 => .sl [] 0
    | v => .sc v
  | .csl c n => .sl c n
  | .cref r o l t => .ref r o l t
  | v => v

theorem VR.wk {F : Ft} {M : Mt} {av : AV} {cv : Value} (h : VR F M av cv) : VR F M (wk av) cv := by
  cases h with
  | sc =>
    show VR F M (match cv with | .slice none 0 0 => AV.sl [] 0 | v => AV.sc v) cv
    split
    · exact .sl0
    · exact .sc _
  | csl f hF h1 h2 ho => exact .sl f hF (Nat.le_refl _) h1 h2 ho
  | csl0 => exact .sl0
  | cref hM hc hz => exact .ref hM (Nat.le_refl _) hc hz
  | sl f hF hn h1 h2 ho => exact .sl f hF hn h1 h2 ho
  | sl0 => exact .sl0
  | ref hM hl hc hz => exact .ref hM hl hc hz
  | ptr hM => exact .ptr hM
  | eptr f hF h1 h2 ho => exact .eptr f hF h1 h2 ho
  | agg f hs h1 h2 ho => exact .agg f hs h1 h2 ho
  | tup f hs h1 h2 => exact .tup f hs h1 h2
  | clo f g hs ht h1 h2 h3 h4 => exact .clo f g hs ht h1 h2 h3 h4
  | ifc h => exact .ifc h
  | mp hM => exact .mp hM

/-- Results. -/
def resA (ts : List Tmp) (env : Env) : AV :=
  match ts with
  | [t] => wk (env t)
  | ts => .tup (ts.map fun t => wk (env t))

theorem run_results {fn : Func} (ts : List Tmp) (h : fn.results = (ts.map ResultVar.tmp).toArray) (tmps : Array Value) (P : Program) (w : World) :
    (results fn tmps).run P w = .ok (if hs : ts.length = 1 then tmps.getD (ts[0]'(by omega)) undef else .tuple (ts.map fun t => tmps.getD t undef).toArray) w := by
  unfold results
  rw [h, List.mapM_toArray]
  generalize hg : (fun (x : ResultVar) => (match x with
      | .tmp t => (pure (tmps.getD t undef) : Sem Value)
      | .cell a t => do loadVar t (← asAddr (tmps.getD a undef)))) = g
  have hgt : ∀ t, g (.tmp t) = pure (tmps.getD t undef) := fun t => by rw [← hg]
  have key : ∀ (l : List Tmp), (List.mapM (m := Sem) g (l.map ResultVar.tmp)).run P w = .ok (l.map fun t => tmps.getD t undef) w := by
    intro l
    induction l with
    | nil => rfl
    | cons t l ih => simp only [List.map_cons, List.mapM_cons, Sem.run_bind, hgt, Sem.run_pure, Result.andThen_ok, ih]
  simp only [Sem.run_bind, Sem.run_map, key ts, Result.andThen_ok, Sem.run_pure]
  congr 1
  by_cases hs : ts.length = 1
  · simp [hs]
  · simp [hs]

/-- At the end of a body. -/
def RetPost (ts : List Tmp) (K : AV → Heap → Prop) : Exit → Env → Heap → Prop
  | .normal, env, H | .ret, env, H => K (resA ts env) H
  | _, _, _ => False

def argEnv (args : List AV) : Env := fun i => args.getD i (.sc undef)

theorem acalls_of {f : FuncId} {fn : Func} {c : Code} {ts : List Tmp} {args : List AV} {H : Heap} {K : AV → Heap → Prop}
    (hf : P.funcs[f]? = some fn) (hb : fn.body = some c) (ht : fn.results = (ts.map ResultVar.tmp).toArray) (hn : args.length ≤ fn.ntmps)
    (hc : callable P f = true) (h : AWP P w0 fn.ntmps c (RetPost ts K) (argEnv args) H) : ACalls P w0 f args H K := by
  refine ⟨hc, fun w F M cargs hr hv => ?_⟩
  have hsz : cargs.size = args.length := by simpa using hv.1.symm
  refine calls_of_wp hf hb (Code.wp_mono ?_ (h w F M { tmps := cargs ++ Array.replicate (fn.ntmps - cargs.size) undef, defers := [] } hr ⟨by simp; omega, rfl, fun i => ?_⟩))
  · rintro e a w' ⟨env', H', F', M', x', r', er', q⟩
    have fin : K (resA ts env') H' → bodyPost P fn (Returns w0 F M K) .ret a w' := by
      intro k
      refine ⟨er'.defers, _, run_results ts ht a.tmps P w', resA ts env', _, H', F', M', rfl, x', r', ?_, k⟩
      by_cases hs : ts.length = 1
      · obtain ⟨t, rfl⟩ : ∃ t, ts = [t] := by
          cases ts with
          | nil => simp at hs
          | cons t l => cases l with
            | nil => exact ⟨t, rfl⟩
            | cons _ _ => simp at hs
        exact (er'.slot t).wk
      · rw [dif_neg hs]
        have : resA ts env' = .tup (ts.map fun t => wk (env' t)) := by
          cases ts with
          | nil => rfl
          | cons t l => cases l with
            | nil => simp at hs
            | cons _ _ => rfl
        rw [this]
        refine .tup (fun i => ((ts.map fun t => a.tmps.getD t undef)[i]?).getD undef) (by simp) ?_ ?_
        · intro i av hi
          have : i < ts.length := by simpa using (List.getElem?_eq_some_iff.1 hi).1
          simp [this]
        · intro i av hi
          have hlt : i < ts.length := by simpa using (List.getElem?_eq_some_iff.1 hi).1
          simp [hlt] at hi ⊢
          subst hi
          simpa using (er'.slot ts[i]).wk
    cases e with
    | normal => exact fin q
    | ret => exact fin q
    | _ => exact q.elim
  · simp only [argEnv]
    by_cases hi : i < args.length
    · obtain ⟨cv, hcv, hvr⟩ := hv.get (i := i) (av := args[i]) (by simp [hi])
      have : i < cargs.size := by omega
      simp [Array.getD_eq_getD_getElem?, Array.getElem?_append, this] at hcv ⊢
      subst hcv
      simpa [hi] using hvr
    · have h1 : ¬ i < cargs.size := by omega
      have e1 : args.getD i (.sc undef) = .sc undef := by simp [List.getD_eq_getElem?_getD, Nat.le_of_not_lt hi]
      rw [e1]
      have e2 : (cargs ++ Array.replicate (fn.ntmps - cargs.size) undef).getD i undef = undef := by
        simp only [Array.getD_eq_getD_getElem?, Array.getElem?_append, h1, if_false, Array.getElem?_replicate]
        split <;> rfl
      rw [e2]
      exact .sc undef
end
end Go.Am
