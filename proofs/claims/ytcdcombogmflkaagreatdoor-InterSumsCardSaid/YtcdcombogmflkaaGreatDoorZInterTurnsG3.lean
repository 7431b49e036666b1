/- Contracts and plain laws that the law InterTurnsG needs, part 3. -/
import Derived.Test.YtcdcombogmflkaaGreatDoorZInterTurnsG2
import Derived.Orders
namespace Go.Am
open Go
section
variable (P:Program) (w0:World) (nt:Nat)
def ownD (own:List Nat) (dst:Option Tmp):Bool:=
 match dst with
 | some d=>own.contains d
 | none=>false
def isNilO:Operand->Bool
 | .const (.slice none 0 0)=>true
 | _=>false
def eqi (own:List Nat) (o:Oper):Bool:=
 match o.op with
 | .move _ | .assign _ | .buildSlice .. => !ownD own o.dst
 | .pick .. | .build .. | .load .. | .nilCheck _ | .unOp .. | .convert .. | .makeInterface .. | .typeAssert .. | .makeFunc .. | .slice .. | .fieldAddr .. | .field .. | .indexAddr .. | .index .. | .extract .. | .lookup .. | .sliceToArrayPointer .. =>true
 | .binOp _ _ _ y _=> !isNilO y
 | .call c=>match c.callee with
  | .builtin .len | .builtin .cap | .builtin .min | .builtin .max=>true
  | _=>false
 | _=>false
def fqv (x:AV) (K:AV->Prop):Prop:=
 match x with
 | .ptr .. =>K x
 | .eptr .. =>K x
 | .clo .. =>K x
 | _=>False
def pickK (c x y:AV) (K:AV->Prop):Prop:=
 match c with
 | .sc (.bool t)=>K (if t then x else y)
 | _=>False
def opC (H:Heap) (ρ:Operand->AV) (op:Op) (K:AV->Prop):Prop:=
 match op with
 | .move x | .assign x=>K (ρ x)
 | .pick c x y=>pickK (ρ c) (ρ x) (ρ y) K
 | .build t parts=>buildK P t (parts.toList.map fun p=>(p.1,ρ p.2)) K
 | .buildSlice t len parts=>bqi P H false t len (parts.toList.map fun p=>(p.1,ρ p.2)) (fun v _=>K v)
 | .load t x=>jqk P H t (ρ x) K
 | .nilCheck x=>fqv (ρ x) K
 | .binOp op t x y _=>binK P op t (ρ x) (ρ y) (mq0 y (ρ y)) K
 | .unOp op _ x=>unK op (ρ x) K
 | .convert s d x=>convK P s d (ρ x) K
 | .makeInterface t x=>ifaceK P t (ρ x) K
 | .typeAssert x _ t ok=>iq0 P t ok (ρ x) K
 | .makeFunc fn a b=>funcK fn (a.toList.map ρ) (b.toList.map ρ) K
 | .slice t x lo hi mx=>eq4 P H t (ρ x) (lo.map ρ) (hi.map ρ) (mx.map ρ) K
 | .fieldAddr t x f=>dqu P t (ρ x) f K
 | .field t x f=>lq7 P t (ρ x) f K
 | .indexAddr t x i=>cq8 P H t (ρ x) (ρ i) K
 | .index t x i=>lq1 P t (ρ x) (ρ i) K
 | .extract x i=>gqf (ρ x) i K
 | .sliceToArrayPointer t x=>mqg P t (ρ x) K
 | .lookup t x i ok=>gq1 P H t (ρ x) (ρ i) ok K
 | .call c=>match c.callee,c.args.toList,c.argTypes.toList with
  | .builtin .len,[x],[t]=>lenK P t (ρ x) K
  | .builtin .cap,[x],[t]=>capK P t (ρ x) K
  | .builtin .min,[x,y],_=>eq7 false (ρ x) (ρ y) K
  | .builtin .max,[x,y],_=>eq7 true (ρ x) (ρ y) K
  | _,_,_=>False
 | _=>False
def opX (H:Heap) (ρ:Operand->AV) (o:Oper) (K:AV->Heap->Prop):Prop:=
 match o.op with
 | .move x | .assign x=>kql (ρ x)=true/\fqu P H o.type K
 | .buildSlice t len parts=>bqi P H true t len (parts.toList.map fun p=>(p.1,ρ p.2)) K
 | .alloc t=>gqq P H t K
 | .box _ x=>boxK H (ρ x) K
 | .store t x y=>storeK P H t (ρ x) (ρ y) (fun H'=>K (.sc undef) H')
 | .makeSlice t l c=>dqt P H t (ρ l) (ρ c) K
 | .makeMap _ c=>nqa H c K
 | .mapUpdate t m k v=>cq6 P H t (ρ m) (ρ k) (ρ v) (fun H'=>K (.sc undef) H')
 | .insert t m k v=>cq6 P H t (ρ m) (ρ k) (ρ v) (fun H'=>K (.sc undef) H')
 | .range t x=>mapB P t=true/\lqi H (ρ x) K
 | .next x str=>nextK H (ρ x) str K
 | .entry x=>lq8 H (ρ x) (fun v=>K v H)
 | .binOp .eql t x _ _=>eqS P t false (ρ x) (fun v=>K v H)
 | .binOp .neq t x _ _=>eqS P t true (ρ x) (fun v=>K v H)
 | .call c=>match c.callee,c.args.toList,c.argTypes.toList with
  | .builtin .append,[s,x],[t1,t2]=>appK P H t1 t2 (ρ s) (ρ x) K
  | .builtin .copy,[s,x],[t1,t2]=>copyK P H t1 t2 (ρ s) (ρ x) K
  | .builtin .clear,[s],[t]=>mqc P H t (ρ s) K
  | .value f,args,_=>callK P w0 H (ρ f) (args.map fun x=>wk (ρ x)) K
  | .invoke x name,args,_=>kqm P w0 H (ρ x) name (args.map fun x=>wk (ρ x)) K
  | _,_,_=>False
 | _=>False
def fqi (own:List Nat) (o:Oper) (env:Env) (H:Heap) (K:Env->Heap->Prop):Prop:=
 if eqi own o then opC P H (evO env) o.op (fun v=>putK nt o.dst v env (fun env'=>K env' H))
 else opX P w0 H (evO env) o (fun v H'=>putK nt o.dst v env (fun env'=>K env' H'))
end
section
variable {P:Program} {w0:World} {nt:Nat}
theorem bndA_eq (env:Env) (o:Option Operand):bndA env o=o.map (evO env):=by cases o<;>rfl
theorem Arr1 {α:Type} {a:Array α} {x:α} (h:a.toList=[x]):a= #[x]:=Array.ext' h
theorem Arr2 {α:Type} {a:Array α} {x y:α} (h:a.toList=[x,y]):a= #[x,y]:=Array.ext' h
theorem evalOp_ok {own:List Nat} {o:Oper} {env:Env} {H:Heap} {K:Env->Heap->Prop} (h:fqi P w0 nt own o env H K):OpOK P w0 nt o env H K:=by
 unfold fqi at h
 split at h
 ·rename_i hp
  generalize ho:o.op=op at h
  cases op with
  | move x=>exact ok_move (.inl ho) h
  | assign x=>exact ok_move (.inr ho) h
  | pick c x y=>
   simp only [opC,pickK] at h
   split at h
   ·rename_i t e;exact ok_pick ho e h
   ·exact h.elim
  | build t parts=>exact ok_build ho h
  | buildSlice t len parts=>
   refine hq2 false ho ?_
   simp only [opC] at h
   unfold bqi at h ⊢
   exact h
  | load t x=>exact ok_load ho h
  | nilCheck x=>
   simp only [opC,fqv] at h
   split at h
   ·rename_i r t f e;exact gqw ho (.inl ⟨r,t,f,e⟩) h
   ·rename_i c f e;exact gqw ho (.inr (.inl ⟨c,f,e⟩)) h
   ·rename_i f c d e;exact gqw ho (.inr (.inr ⟨f,c,d,e⟩)) h
   ·exact h.elim
  | binOp op t x y t'=>exact ok_bin ho h
  | unOp op t x=>exact ok_un ho h
  | convert s d x=>exact ok_conv ho h
  | makeInterface t x=>exact ok_iface ho h
  | typeAssert x xt t ok=>exact ok_assert ho h
  | makeFunc fn a b=>exact ok_makeFunc ho h
  | slice t x lo hi mx=>exact ok_slice ho (by rw [bndA_eq,bndA_eq,bndA_eq];exact h)
  | fieldAddr t x f=>exact ok_fieldAddr ho h
  | field t x f=>exact ok_field ho h
  | indexAddr t x i=>exact ok_indexAddr ho h
  | index t x i=>exact ok_index ho h
  | extract x i=>exact ok_extract ho h
  | sliceToArrayPointer t x=>exact ok_arrAt ho h
  | lookup t x i c=>exact ok_lookup ho h
  | call c=>
   obtain ⟨callee,args,ats⟩:=c
   simp only [opC] at h
   split at h
   ·rename_i x t e2 e3
    have:=Arr1 e2;have:=Arr1 e3;subst_vars
    exact ok_len ho h
   ·rename_i x t e2 e3
    have:=Arr1 e2;have:=Arr1 e3;subst_vars
    exact ok_cap ho h
   ·rename_i x y e2
    have:=Arr2 e2;subst_vars
    exact ok_min ho h
   ·rename_i x y e2
    have:=Arr2 e2;subst_vars
    exact ok_max ho h
   ·exact h.elim
  | _=>exact h.elim
 ·rename_i hp
  unfold opX at h
  generalize ho:o.op=op at h
  cases op with
  | move x=>exact ok_nilOwn (.inl ho) h.1 h.2
  | assign x=>exact ok_nilOwn (.inr ho) h.1 h.2
  | buildSlice t len parts=>exact hq2 true ho h
  | alloc t=>exact ok_alloc ho h
  | box t x=>exact ok_box ho h
  | store t x y=>exact ok_store ho h
  | makeSlice t l c=>exact ok_makeSlice ho h
  | makeMap t c=>exact ok_makeMap ho h
  | mapUpdate t x i y=>exact iq8 (.inl ho) h
  | insert t x i y=>exact iq8 (.inr ho) h
  | range t x=>exact ok_range ho h.1 h.2
  | next x str=>exact ok_next ho h
  | entry x=>exact ok_entry ho h
  | binOp op t x y t'=>
   have hy:isNilO y=true:=by
    simp only [eqi,ho,Bool.not_eq_true',Bool.not_eq_false] at hp
    simpa using hp
   have hy':y= .const (.slice none 0 0):=by
    unfold isNilO at hy
    split at hy
    ·rfl
    ·cases hy
   subst hy'
   cases op with
   | eql=>exact ok_binS false ho h
   | neq=>exact ok_binS true ho h
   | _=>exact h.elim
  | call c=>
   obtain ⟨callee,args,ats⟩:=c
   simp only at h
   split at h
   ·rename_i s x t1 t2 e2 e3
    have:=Arr2 e2;have:=Arr2 e3;subst_vars
    exact ok_app ho h
   ·rename_i s x t1 t2 e2 e3
    have:=Arr2 e2;have:=Arr2 e3;subst_vars
    exact ok_copy ho h
   ·rename_i s t e2 e3
    have:=Arr1 e2;have:=Arr1 e3;subst_vars
    exact ok_clear ho h
   ·rename_i f
    exact ok_call ho h
   ·rename_i f name
    exact ok_invoke ho h
   ·exact h.elim
  | _=>exact h.elim
def cq0 (ops:Array Oper) (o:Oper):Option (Option Tmp×Bool):=
 match o.guard with
 | none=>none
 | some (j,want)=>some ((ops[j]?).bind (·.dst),want)
def gqr (g:Option (Option Tmp×Bool)) (env:Env) (yes no:Env->Prop):Prop:=
 match g with
 | none=>yes env
 | some (none,_)=>no env
 | some (some d,want)=>match env d with
  | .sc (.bool b)=>(b=want->yes (upd env d (B want)))/\(b= !want->no (upd env d (B (!want))))
  | _=>no env
def stepA (P:Program) (w0:World) (nt:Nat) (own:List Nat) (ops:Array Oper) (o:Oper) (env:Env) (H:Heap) (K:Env->Heap->Prop):Prop:=
 gqr (cq0 ops o) env (fun env=>fqi P w0 nt own o env H K) (fun env=>putK nt o.dst (.sc undef) env (fun env=>K env H))
def bqv (P:Program) (w0:World) (nt:Nat) (own:List Nat) (ops:Array Oper):List Oper->Env->Heap->(Env->Heap->Prop)->Prop
 | [],env,H,K=>K env H
 | o::rest,env,H,K=>stepA P w0 nt own ops o env H (fun env H=>bqv P w0 nt own ops rest env H K)
theorem wantA_iff {ops:Array Oper} {o:Oper} {env:Env} {F:Ft} {M:Mt} {a:Act} (er:EnvR F M nt env a) {yes no:Env->Prop} (h:gqr (cq0 ops o) env yes no):
  (Region.wanted o (yielded ops a.tmps)=true/\yes env)\/(Region.wanted o (yielded ops a.tmps)=false/\no env):=by
 unfold gqr cq0 at h
 unfold Region.wanted
 cases hg:o.guard with
 | none=>rw [hg] at h;exact .inl ⟨rfl,h⟩
 | some p=>
  obtain ⟨j,want⟩:=p
  rw [hg] at h
  simp only at h ⊢
  unfold yielded
  cases hd:(ops[j]?).bind (·.dst) with
  | none=>rw [hd] at h;exact .inr ⟨rfl,h⟩
  | some d=>
   rw [hd] at h
   simp only [Option.bind_some] at h ⊢
   have hs:=er.slot d
   have hget:a.tmps.getD d undef=(a.tmps[d]?).getD undef:=by simp [Array.getD_eq_getD_getElem?]
   rw [hget] at hs
   split at h
   ·rename_i b eb
    rw [eb] at hs
    have hv:=hs.sc_inv
    have hb:a.tmps[d]? =some (.bool b):=by
     cases ht:a.tmps[d]? with
     | none=>rw [ht] at hv;cases hv
     | some v=>rw [ht] at hv;simp at hv;rw [hv]
    rw [hb]
    simp only
    have key:∀ c,b=c->upd env d (B c)=env:=by
     intro c e;subst e;rw [show B b=env d from eb.symm,hqb]
    by_cases e:b=want
    ·left
     refine ⟨by simp [e],?_⟩
     rw [<-key want e];exact h.1 e
    ·right
     have e':b= !want:=by cases b<;>cases want<;>simp_all
     refine ⟨by simp [e],?_⟩
     rw [<-key (!want) e'];exact h.2 e'
   ·rename_i hn
    right
    refine ⟨?_,h⟩
    cases ht:a.tmps[d]? with
    | none=>rfl
    | some v=>
     rw [ht] at hs
     simp only [Option.getD_some] at hs
     cases v with
     | bool b=>
      exfalso
      generalize hz:env d=z at hs hn
      cases hs
      exact hn b rfl
     | _=>rfl
theorem mqp {own:List Nat} {ops:Array Oper} {o:Oper} {env:Env} {H:Heap} {K:Env->Heap->Prop} (h:stepA P w0 nt own ops o env H K)
  {w:World} {F:Ft} {M:Mt} {a:Act} (r:Rel w0 w F M H) (er:EnvR F M nt env a) {next:Act->World->Prop} {Q:Exit->Act->World->Prop}
  (hn:∀ env' H' F' M' a' w',Ext F F' M M'->Rel w0 w' F' M' H'->EnvR F' M' nt env' a'->K env' H'->next a' w'):
  if Region.wanted o (yielded ops a.tmps) then o.wp P a w next Q else next (a.put o.dst undef) w:=by
 rcases wantA_iff er h with ⟨hw,hy⟩ | ⟨hw,hno⟩
 ·rw [if_pos hw]
  exact evalOp_ok hy w F M a r er next Q hn
 ·rw [if_neg (by rw [hw];simp)]
  obtain ⟨env',er',k⟩:=kqc er (.sc undef) hno
  exact hn env' H F M _ w (Ext.refl _ _) r er' k
theorem evalOps_ok {own:List Nat} {ops:Array Oper}:∀ (l:List Oper) (env:Env) (H:Heap) (K:Env->Heap->Prop),bqv P w0 nt own ops l env H K->
  ∀ w F M a,Rel w0 w F M H->EnvR F M nt env a->∀ Q:Exit->Act->World->Prop,
   (∀ env' H' F' M' a' w',Ext F F' M M'->Rel w0 w' F' M' H'->EnvR F' M' nt env' a'->K env' H'->Q .normal a' w')->wpList P ops Q l a w:=by
 intro l
 induction l with
 | nil=>intro env H K h w F M a r er Q hn;exact hn env H F M a w (Ext.refl _ _) r er h
 | cons o rest ih=>
  intro env H K h w F M a r er Q hn
  have st:=mqp (Q:=Q) (next:=wpList P ops Q rest) h r er (fun env' H' F' M' a' w' x r' er' k=>
   ih env' H' K k w' F' M' a' r' er' Q (fun env'' H'' F'' M'' a'' w'' x' r'' er'' k'=>hn env'' H'' F'' M'' a'' w'' (x.trans x') r'' er'' k'))
  unfold wpList
  split
  ·rename_i hw;rw [if_pos hw] at st;exact .inl st
  ·rename_i hw;rw [if_neg hw] at st;exact st
theorem mqf (own:List Nat) {id:Nat} {ops:Array Oper} {Q:Exit->Env->Heap->Prop} {env:Env} {H:Heap}
  (h:bqv P w0 nt own ops ops.toList env H (Q .normal)):AWP P w0 nt (.region id ops false) Q env H:=by
 intro w F M a r er
 refine wp_region_list (evalOps_ok _ _ _ _ h w F M a r er _ ?_)
 intro env' H' F' M' a' w' x r' er' k
 exact ⟨env',H',F',M',x,r',er',k⟩
end
end Go.Am
namespace Go.Am
open Go
section
variable {P:Program} {w0:World} {nt:Nat}
def Det (C:(AV->Prop)->Prop):Prop:=∀ K,C K->∃ v,∀ K',C K'↔K' v
theorem Det.one (v:AV):Det (fun K=>K v):=fun _ _=>⟨v,fun _=>Iff.rfl⟩
theorem Det.false:Det (fun _=>False):=fun _ h=>h.elim
theorem Det.and {c:Prop} {C:(AV->Prop)->Prop} (h:Det C):Det (fun K=>c/\C K):=fun K hk=>
 let ⟨v,hv⟩:=h K hk.2;⟨v,fun K'=>⟨fun a=>(hv K').1 a.2,fun a=>⟨hk.1,(hv K').2 a⟩⟩⟩
theorem Det.ite {c:Prop} [Decidable c] {C D:(AV->Prop)->Prop} (h:Det C) (k:Det D):Det (fun K=>if c then C K else D K):=by
 by_cases hc:c
 ·simp only [hc,if_true];exact h
 ·simp only [hc,if_false];exact k
theorem iqb (k:IntKind) (n:Int):Det (jqm k n):=by
 unfold jqm;exact Det.ite (Det.and (Det.one _)) (Det.one _)
theorem det_binA (op:BinOp) (x y:AV):Det (binA op x y):=by
 cases op<;>unfold binA<;>simp only<;>split<;>
  first | exact Det.false | exact Det.and (Det.one _) | exact Det.and (iqb _ _) | exact Det.and (Det.and (iqb _ _)) | exact Det.and (Det.and (Det.one _)) | exact Det.and Det.false
theorem iqa (t:TypeId) (cells:List AV) (off:Nat):Det (iqr P t cells off):=by
 unfold iqr
 refine Det.ite ?_ (Det.and (Det.and (Det.and (Det.one _))))
 cases cells[off]? with
 | none=>exact Det.false
 | some v=>exact Det.one v
theorem det_loadK (H:Heap) (t:TypeId) (a:AV):Det (jqk P H t a):=by
 unfold jqk
 split
 ·exact iqa _ _ _
 ·split
  ·exact iqa _ _ _
  ·exact Det.false
 ·exact Det.false
theorem det_fillA (pl:Nat->Option (Nat×Nat)) (f:List AV->AV):∀ (parts:List (Nat×AV)) (cells:List AV),Det (fun K=>jql pl cells parts (fun cs=>K (f cs))):=by
 intro parts
 induction parts with
 | nil=>intro cells;exact Det.one _
 | cons p rest ih=>
  obtain ⟨i,v⟩:=p
  intro cells
  simp only [jql]
  cases pl i with
  | none=>exact Det.false
  | some q=>obtain ⟨off,size⟩:=q;exact Det.and (Det.and (Det.and (ih _)))
theorem iqw (H:Heap) (ρ:Operand->AV) (op:Op):Det (opC P H ρ op):=by
 cases op with
 | move x=>exact Det.one _
 | assign x=>exact Det.one _
 | pick c x y=>
  show Det (pickK (ρ c) (ρ x) (ρ y));unfold pickK
  split
  ·exact Det.one _
  ·exact Det.false
 | build t parts=>
  show Det (buildK P t (parts.toList.map fun p=>(p.1,ρ p.2)));unfold buildK
  refine Det.and (Det.and ?_)
  split
  ·exact Det.and (det_fillA _ _ _ _)
  ·exact Det.false
 | buildSlice t len parts=>
  show Det (fun K=>bqi P H false t len (parts.toList.map fun p=>(p.1,ρ p.2)) (fun v _=>K v));unfold bqi
  split
  ·refine Det.and (Det.and ?_)
   split
   ·exact Det.and (Det.and (by simpa using det_fillA _ _ _ _))
   ·exact Det.false
  ·exact Det.false
 | load t x=>exact det_loadK _ _ _
 | nilCheck x=>
  show Det (fqv (ρ x));unfold fqv
  split<;>first | exact Det.one _ | exact Det.false
 | binOp op t x y t'=>
  show Det (binK P op t (ρ x) (ρ y) (mq0 y (ρ y)));unfold binK
  split
  ·exact det_binA _ _ _
  ·refine Det.and ?_
   have eqd:∀ neg x y,Det (eqA P t neg x y):=by
    intro neg x y
    unfold eqA
    split<;>first | exact Det.and (Det.one _) | exact Det.one _ | exact Det.false
   cases op<;>first | exact eqd _ _ _ | exact Det.false
 | unOp op t x=>
  show Det (unK op (ρ x));unfold unK
  split<;>first | exact Det.one _ | exact iqb _ _ | exact Det.false
 | convert s d x=>
  show Det (convK P s d (ρ x));unfold convK
  split
  ·split
   ·exact Det.and (iqb _ _)
   ·exact Det.false
  ·exact Det.false
 | makeInterface t x=>show Det (ifaceK P t (ρ x));unfold ifaceK;exact Det.and (Det.one _)
 | typeAssert x xt t ok=>
  show Det (iq0 P t ok (ρ x));unfold iq0
  split
  ·exact Det.and (Det.and (Det.and (Det.one _)))
  ·exact Det.false
 | makeFunc fn a b=>
  show Det (funcK fn (a.toList.map ρ) (b.toList.map ρ));unfold funcK
  split<;>first | exact Det.one _ | exact Det.false
 | slice t x lo hi mx=>
  have sk:∀ x es lo hi clip full,Det (dq6 H x es lo hi clip full):=by
   intro x es lo hi clip full
   unfold dq6
   split
   ·exact Det.and (Det.and (Det.and (Det.one _)))
   ·exact Det.and (Det.and (Det.and (Det.one _)))
   ·refine Det.and (Det.and ?_)
    split<;>first | exact Det.and (Det.and (Det.one _)) | exact Det.false
   ·refine Det.and (Det.and ?_)
    split<;>first | exact Det.and (Det.and (Det.one _)) | exact Det.false
   ·exact Det.and (Det.and (Det.one _))
   ·exact Det.false
  show Det (eq4 P H t (ρ x) (lo.map ρ) (hi.map ρ) (mx.map ρ));unfold eq4
  split
  ·refine Det.and ?_
   split
   ·split<;>first | exact sk _ _ _ _ _ _ | exact Det.and (sk _ _ _ _ _ _) | exact Det.and (Det.and (sk _ _ _ _ _ _)) | exact Det.and (Det.and (Det.and (sk _ _ _ _ _ _))) | exact Det.false
   ·exact Det.false
  ·exact Det.false
 | fieldAddr t x f=>
  show Det (dqu P t (ρ x) f);unfold dqu
  split
  ·refine Det.and ?_
   split<;>first | exact Det.one _ | exact Det.false
  ·exact Det.false
 | field t x f=>
  show Det (lq7 P t (ρ x) f);unfold lq7
  split
  ·split<;>first | exact iqa _ _ _ | exact Det.false
  ·exact Det.false
 | indexAddr t x i=>
  show Det (cq8 P H t (ρ x) (ρ i));unfold cq8
  split
  ·refine Det.and ?_
   split
   ·refine Det.and ?_
    split
    ·exact Det.and (Det.one _)
    ·exact Det.and (Det.one _)
    ·refine Det.and ?_
     split<;>first | exact Det.and (Det.and (Det.one _)) | exact Det.false
    ·refine Det.and ?_
     split<;>first | exact Det.and (Det.and (Det.one _)) | exact Det.false
    ·exact Det.false
   ·split
    ·refine Det.and (Det.and ?_)
     split<;>first | exact Det.one _ | exact Det.false
    ·exact Det.false
  ·exact Det.false
 | index t x i=>
  show Det (lq1 P t (ρ x) (ρ i));unfold lq1
  split
  ·split
   ·exact Det.and (Det.and (Det.and (iqa _ _ _)))
   ·exact Det.false
  ·rename_i s k i' _ _
   refine Det.and (Det.and ?_)
   intro K hK
   obtain ⟨hlt,k⟩:=hK
   exact ⟨_,fun K'=>⟨fun ⟨_,k'⟩=>k',fun k'=>⟨hlt,k'⟩⟩⟩
  ·exact Det.false
 | sliceToArrayPointer t x=>
  show Det (mqg P t (ρ x));unfold mqg
  split
  ·split
   ·exact Det.and (Det.and (Det.one _))
   ·exact Det.false
  ·exact Det.false
 | extract x i=>
  show Det (gqf (ρ x) i);unfold gqf
  split
  ·split<;>first | exact Det.one _ | exact Det.false
  ·exact Det.false
 | lookup t x i c=>
  show Det (gq1 P H t (ρ x) (ρ i) c);unfold gq1
  split
  ·refine Det.and (Det.and ?_)
   split<;>first | exact Det.one _ | exact Det.false
  ·exact Det.false
 | call c=>
  unfold opC
  simp only
  split
  ·unfold lenK
   split
   ·exact Det.and (Det.one _)
   ·refine Det.and ?_
    split<;>first | exact Det.one _ | exact Det.false
  ·unfold capK
   split
   ·exact Det.and (Det.one _)
   ·exact Det.false
  ·unfold eq7
   split<;>first | exact Det.one _ | exact Det.false
  ·unfold eq7
   split<;>first | exact Det.one _ | exact Det.false
  ·exact Det.false
 | _=>exact Det.false
theorem hq1 (H:Heap) {ρ ρ':Operand->AV} (op:Op) (h:∀ x∈op.operands,ρ x=ρ' x):opC P H ρ op=opC P H ρ' op:=by
 funext K
 cases op with
 | build t parts=>
  have:(parts.toList.map fun p=>(p.1,ρ p.2))=(parts.toList.map fun p=>(p.1,ρ' p.2)):=by
   apply List.map_congr_left
   intro p hp
   rw [h p.2 (by simp [Op.operands];exact ⟨p.1,by simpa using hp⟩)]
  simp only [opC,this]
 | buildSlice t len parts=>
  have:(parts.toList.map fun p=>(p.1,ρ p.2))=(parts.toList.map fun p=>(p.1,ρ' p.2)):=by
   apply List.map_congr_left
   intro p hp
   rw [h p.2 (by simp [Op.operands];exact ⟨p.1,by simpa using hp⟩)]
  simp only [opC,this]
 | makeFunc fn a b=>
  have h1:a.toList.map ρ=a.toList.map ρ':=List.map_congr_left fun x hx=>h x (by simp [Op.operands];exact .inl (by simpa using hx))
  have h2:b.toList.map ρ=b.toList.map ρ':=List.map_congr_left fun x hx=>h x (by simp [Op.operands];exact .inr (by simpa using hx))
  simp only [opC,h1,h2]
 | slice t x lo hi mx=>
  have h0:=h x (by simp [Op.operands])
  have h1:lo.map ρ=lo.map ρ':=by cases lo with | none=>rfl | some y=>simp [h y (by simp [Op.operands])]
  have h2:hi.map ρ=hi.map ρ':=by cases hi with | none=>rfl | some y=>simp [h y (by simp [Op.operands])]
  have h3:mx.map ρ=mx.map ρ':=by cases mx with | none=>rfl | some y=>simp [h y (by simp [Op.operands])]
  simp only [opC,h0,h1,h2,h3]
 | call c=>
  simp only [opC]
  split
  ·rename_i x t _ e2 _
   rw [h x (by simp [Op.operands,Call.operands];right;rw [<-Array.mem_toList_iff,e2];simp)]
  ·rename_i x t _ e2 _
   rw [h x (by simp [Op.operands,Call.operands];right;rw [<-Array.mem_toList_iff,e2];simp)]
  ·rename_i x y _ e2
   rw [h x (by simp [Op.operands,Call.operands];right;rw [<-Array.mem_toList_iff,e2];simp),h y (by simp [Op.operands,Call.operands];right;rw [<-Array.mem_toList_iff,e2];simp)]
  ·rename_i x y _ e2
   rw [h x (by simp [Op.operands,Call.operands];right;rw [<-Array.mem_toList_iff,e2];simp),h y (by simp [Op.operands,Call.operands];right;rw [<-Array.mem_toList_iff,e2];simp)]
  ·rfl
 | pick c x y=>simp only [opC,h c (by simp [Op.operands]),h x (by simp [Op.operands]),h y (by simp [Op.operands])]
 | binOp op t x y t'=>simp only [opC,h x (by simp [Op.operands]),h y (by simp [Op.operands])]
 | indexAddr t x i=>simp only [opC,h x (by simp [Op.operands]),h i (by simp [Op.operands])]
 | index t x i=>simp only [opC,h x (by simp [Op.operands]),h i (by simp [Op.operands])]
 | move x=>simp only [opC,h x (by simp [Op.operands])]
 | assign x=>simp only [opC,h x (by simp [Op.operands])]
 | load t x=>simp only [opC,h x (by simp [Op.operands])]
 | nilCheck x=>simp only [opC,h x (by simp [Op.operands])]
 | unOp op t x=>simp only [opC,h x (by simp [Op.operands])]
 | convert s d x=>simp only [opC,h x (by simp [Op.operands])]
 | makeInterface t x=>simp only [opC,h x (by simp [Op.operands])]
 | typeAssert x xt t ok=>simp only [opC,h x (by simp [Op.operands])]
 | fieldAddr t x f=>simp only [opC,h x (by simp [Op.operands])]
 | field t x f=>simp only [opC,h x (by simp [Op.operands])]
 | extract x i=>simp only [opC,h x (by simp [Op.operands])]
 | sliceToArrayPointer t x=>simp only [opC,h x (by simp [Op.operands])]
 | lookup t x i c=>simp only [opC,h x (by simp [Op.operands]),h i (by simp [Op.operands])]
 | _=>rfl
end
end Go.Am
namespace Go.Am
open Go
section
variable {P:Program} {w0:World} {nt:Nat}
theorem Det.mono {C:(AV->Prop)->Prop} (d:Det C) {K K':AV->Prop} (h:C K) (hk:∀ v,K v->K' v):C K':=by
 obtain ⟨v,hv⟩:=d K h
 exact (hv K').2 (hk v ((hv K).1 h))
def boxes (H:Heap):Heap:=fun r=>match H r with
 | some k=>if k.isArr then none else some k
 | none=>none
theorem boxes_sub (H:Heap):Sub (boxes H) H:=by
 intro r k h
 unfold boxes at h
 split at h
 ·rename_i c e
  split at h
  ·cases h
  ·cases h;exact e
 ·cases h
def aqg (H H':Heap):Prop:=∀ r k,k.isArr=false->H r=some k->H' r=some k
theorem aqg.refl (H:Heap):aqg H H:=fun _ _ _ h=>h
theorem aqg.boxes {H H':Heap} (h:aqg H H'):Sub (boxes H) (boxes H'):=by
 intro r k hk
 unfold Am.boxes at hk ⊢
 split at hk
 ·rename_i c e
  split at hk
  ·cases hk
  ·rename_i ha
   cases hk
   have:=h r _ (by simpa using ha) e
   rw [this]
   simp [ha]
 ·cases hk
theorem aqg.updA {H H':Heap} (h:aqg H H') {r es n:Nat} {e:TypeId} {cells:List AV} (hr:H r=some (.arr es e cells n)) (k:Option Blk):aqg H (upd H' r k):=by
 intro s c hc hs
 by_cases e:s=r
 ·subst e;rw [hr] at hs;cases hs;cases hc
 ·rw [aqm _ _ _ e];exact h s c hc hs
theorem aqg.updN {H H':Heap} (h:aqg H H') {r:Nat} (hr:H r=none) (k:Option Blk):aqg H (upd H' r k):=by
 intro s c hc hs
 by_cases e:s=r
 ·subst e;rw [hr] at hs;cases hs
 ·rw [aqm _ _ _ e];exact h s c hc hs
theorem aqg.fresh {H:Heap} {r:Nat} (hr:H r=none) (k:Option Blk):aqg H (Am.upd H r k):=(aqg.refl H).updN hr k
theorem loadK_sub {H H':Heap} (s:Sub H H') (t:TypeId) (a:AV) (K:AV->Prop) (h:jqk P H t a K):jqk P H' t a K:=by
 unfold jqk at h ⊢
 split at h
 ·exact h
 ·rename_i r top off
  split at h
  ·rename_i cells hc
   obtain ⟨k,hk,hgen,hor⟩:=kqw hc
   have hk':=s r k hk
   have:fq6 H' r top=some cells:=by
    unfold fq6
    rw [hk']
    rcases hor with ⟨es,e,rfl⟩ | rfl
    ·simp
    ·simp only [Blk.gen] at hgen;simp [<-hgen]
   simp only [this]
   exact h
  ·exact h.elim
 ·exact h.elim
theorem dqs {H H':Heap} (s:Sub H H') {x:AV} {es lo hi:Nat} {clip full:Bool} {K:AV->Prop} (h:dq6 H x es lo hi clip full K):dq6 H' x es lo hi clip full K:=by
 unfold dq6 at h ⊢
 split at h
 ·exact h
 ·exact h
 ·obtain ⟨h1,h2,h⟩:=h
  refine ⟨h1,h2,?_⟩
  split at h
  ·rename_i e;simp only [s _ _ e];exact h
  ·exact h.elim
 ·obtain ⟨h1,h2,h⟩:=h
  refine ⟨h1,h2,?_⟩
  split at h
  ·rename_i e;simp only [s _ _ e];exact h
  ·exact h.elim
 ·exact h
 ·exact h.elim
theorem mqx {H H':Heap} (s:Sub H H') (ρ:Operand->AV) (op:Op) (K:AV->Prop) (h:opC P H ρ op K):opC P H' ρ op K:=by
 cases op with
 | load t x=>exact loadK_sub s _ _ _ h
 | slice t x lo hi mx=>
  simp only [opC] at h ⊢
  unfold eq4 at h ⊢
  split at h
  ·obtain ⟨h1,h⟩:=h
   refine ⟨h1,?_⟩
   split at h
   ·split at h
    ·exact dqs s h
    ·exact ⟨h.1,dqs s h.2⟩
    ·exact ⟨h.1,dqs s h.2⟩
    ·exact ⟨h.1,h.2.1,dqs s h.2.2⟩
    ·exact ⟨h.1,h.2.1,dqs s h.2.2⟩
    ·exact ⟨h.1,h.2.1,h.2.2.1,dqs s h.2.2.2⟩
    ·exact h.elim
   ·exact h.elim
  ·exact h.elim
 | indexAddr t x i=>
  simp only [opC] at h ⊢
  unfold cq8 at h ⊢
  split at h
  ·obtain ⟨h0,h⟩:=h
   refine ⟨h0,?_⟩
   split at h
   ·obtain ⟨h1,h⟩:=h
    refine ⟨h1,?_⟩
    split at h
    ·exact h
    ·exact h
    ·refine ⟨h.1,?_⟩
     have h2:=h.2
     split at h2
     ·rename_i e;simp only [s _ _ e];exact h2
     ·exact h2.elim
    ·refine ⟨h.1,?_⟩
     have h2:=h.2
     split at h2
     ·rename_i e;simp only [s _ _ e];exact h2
     ·exact h2.elim
    ·exact h.elim
   ·exact h
  ·exact h.elim
 | buildSlice t len parts=>
  simp only [opC] at h ⊢
  unfold bqi at h ⊢
  exact h
 | lookup t x i c=>
  simp only [opC] at h ⊢
  unfold gq1 at h ⊢
  split at h
  ·refine ⟨h.1,h.2.1,?_⟩
   have h2:=h.2.2
   split at h2
   ·rename_i e;simp only [s _ _ e];exact h2
   ·exact h2.elim
  ·exact h.elim
 | _=>exact h
def heapy:Op->Bool
 | .load .. | .slice .. | .indexAddr .. | .lookup .. =>true
 | _=>false
theorem opC_free {H H':Heap} (ρ:Operand->AV) (op:Op) (hf:heapy op=false) (K:AV->Prop) (h:opC P H ρ op K):opC P H' ρ op K:=by
 cases op with
 | load t x=>cases hf
 | slice t x lo hi mx=>cases hf
 | indexAddr t x i=>cases hf
 | lookup t x i c=>cases hf
 | buildSlice t len parts=>
  simp only [opC] at h ⊢
  unfold bqi at h ⊢
  exact h
 | _=>exact h
theorem lq6 {pl:Nat->Option (Nat×Nat)} {K K':List AV->Prop} (hk:∀ c,K c->K' c):∀ (parts:List (Nat×AV)) (cells:List AV),jql pl cells parts K->jql pl cells parts K':=by
 intro parts
 induction parts with
 | nil=>intro cells h;exact hk _ h
 | cons p rest ih=>
  obtain ⟨i,v⟩:=p
  intro cells h
  simp only [jql] at h ⊢
  split at h
  ·exact ⟨h.1,h.2.1,h.2.2.1,ih _ h.2.2.2⟩
  ·exact h.elim
def lqz:Op->Bool
 | .call c=>match c.callee with
  | .value _=>true
  | .invoke .. =>true
  | _=>false
 | _=>false
def cqq:Op->Bool
 | .store .. =>true
 | .mapUpdate .. =>true
 | .insert .. =>true
 | .next .. =>true
 | .call c=>match c.callee with
  | .builtin _=>false
  | _=>false
 | _=>false
theorem dq8 {H:Heap} {ρ:Operand->AV} {o:Oper} {K K':AV->Heap->Prop} (h:opX P w0 H ρ o K) (hk:∀ v H',K v H'->K' v H'):opX P w0 H ρ o K':=by
 unfold opX at h ⊢
 split at h
 ·refine ⟨h.1,?_⟩
  have h2:=h.2;unfold fqu at h2 ⊢
  split at h2
  ·exact ⟨h2.1,fun r hr=>hk _ _ (h2.2 r hr)⟩
  ·exact h2.elim
 ·refine ⟨h.1,?_⟩
  have h2:=h.2;unfold fqu at h2 ⊢
  split at h2
  ·exact ⟨h2.1,fun r hr=>hk _ _ (h2.2 r hr)⟩
  ·exact h2.elim
 ·unfold bqi at h ⊢
  split at h
  ·refine ⟨h.1,h.2.1,?_⟩
   have h2:=h.2.2
   split at h2
   ·refine ⟨h2.1,h2.2.1,lq6 (fun c hc=> ?_) _ _ h2.2.2⟩
    simp only [if_true] at hc ⊢
    exact fun r hr=>hk _ _ (hc r hr)
   ·exact h2.elim
  ·exact h.elim
 ·unfold gqq at h ⊢
  split at h
  ·exact ⟨h.1,fun r hr=>hk _ _ (h.2 r hr)⟩
  ·exact h.elim
 ·exact ⟨h.1,fun r hr=>hk _ _ (h.2 r hr)⟩
 ·unfold storeK at h ⊢
  split at h
  ·split at h
   ·exact ⟨h.1,h.2.1,h.2.2.1,h.2.2.2.1,hk _ _ h.2.2.2.2⟩
   ·exact h.elim
  ·exact h.elim
 ·unfold dqt at h ⊢
  split at h
  ·split at h
   ·refine ⟨h.1,h.2.1,h.2.2.1,h.2.2.2.1,h.2.2.2.2.1,?_⟩
    have h2:=h.2.2.2.2.2
    split at h2
    ·exact ⟨h2.1,h2.2.1,fun r hr=>hk _ _ (h2.2.2 r hr)⟩
    ·exact h2.elim
   ·exact h.elim
  ·exact h.elim
 ·exact ⟨h.1,fun r hr=>hk _ _ (h.2 r hr)⟩
 ·unfold cq6 at h ⊢
  split at h
  ·refine ⟨h.1,h.2.1,h.2.2.1,?_⟩
   have h2:=h.2.2.2
   split at h2
   ·exact hk _ _ h2
   ·exact h2.elim
  ·exact h.elim
 ·unfold cq6 at h ⊢
  split at h
  ·refine ⟨h.1,h.2.1,h.2.2.1,?_⟩
   have h2:=h.2.2.2
   split at h2
   ·exact hk _ _ h2
   ·exact h2.elim
  ·exact h.elim
 ·refine ⟨h.1,?_⟩
  have h2:=h.2;unfold lqi at h2 ⊢
  split at h2
  ·exact fun r hr=>hk _ _ (h2 r hr)
  ·exact h2.elim
 ·unfold nextK at h ⊢
  split at h
  ·refine ⟨h.1,?_⟩
   have h2:=h.2
   split at h2
   ·exact ⟨fun h0=>hk _ _ (h2.1 h0),fun x hx l hl=>hk _ _ (h2.2 x hx l hl)⟩
   ·exact h2.elim
  ·exact h.elim
 ·unfold lq8 at h ⊢
  split at h
  ·split at h
   ·exact hk _ _ h
   ·exact h.elim
  ·exact h.elim
 ·unfold eqS at h ⊢
  refine ⟨h.1,?_⟩
  have h2:=h.2
  split at h2
  ·exact ⟨fun hn=>hk _ _ (h2.1 hn),hk _ _ h2.2⟩
  ·exact hk _ _ h2
  ·exact h2.elim
 ·unfold eqS at h ⊢
  refine ⟨h.1,?_⟩
  have h2:=h.2
  split at h2
  ·exact ⟨fun hn=>hk _ _ (h2.1 hn),hk _ _ h2.2⟩
  ·exact hk _ _ h2
  ·exact h2.elim
 ·split at h
  ·unfold appK at h ⊢
   split at h
   rotate_left
   ·rename_i hns;rw [if_neg hns]
    unfold growK at h ⊢
    split at h
    ·split at h
     ·refine ⟨h.1,h.2.1,h.2.2.1,h.2.2.2.1,h.2.2.2.2.1,?_⟩
      have h2:=h.2.2.2.2.2
      split at h2
      ·exact ⟨h2.1,h2.2.1,fun r hr=>hk _ _ (h2.2.2 r hr)⟩
      ·exact h2.elim
     ·exact h.elim
    ·exact h.elim
   rename_i hsl;rw [if_pos hsl]
   unfold iq1 at h ⊢
   split at h
   ·refine ⟨h.1,h.2.1,?_⟩
    have h2:=h.2.2
    split at h2
    ·split at h2
     ·refine ⟨h2.1,h2.2.1,?_⟩
      have h3:=h2.2.2
      split at h3
      ·refine ⟨h3.1,h3.2.1,h3.2.2.1,h3.2.2.2.1,?_⟩
       have h4:=h3.2.2.2.2
       split at h4
       ·rename_i hc;rw [if_pos hc];exact hk _ _ h4
       ·rename_i hc;rw [if_neg hc];exact fun r hr=>hk _ _ (h4 r hr)
      ·exact h3.elim
     ·split at h2
      ·exact ⟨h2.1,h2.2.1,h2.2.2.1,h2.2.2.2.1,fun r hr=>hk _ _ (h2.2.2.2.2 r hr)⟩
      ·exact h2.elim
    ·exact h2.elim
   ·exact h.elim
  ·unfold copyK at h ⊢
   split at h
   ·refine ⟨h.1,?_⟩
    have h2:=h.2
    split at h2
    ·split at h2
     ·split at h2
      ·exact ⟨h2.1,h2.2.1,h2.2.2.1,hk _ _ h2.2.2.2⟩
      ·exact h2.elim
     ·exact h2.elim
    ·exact h2.elim
   ·exact h.elim
  ·unfold mqc at h ⊢
   split at h
   ·refine ⟨h.1,?_⟩
    have h2:=h.2
    split at h2
    ·refine ⟨h2.1,h2.2.1,?_⟩
     have h3:=h2.2.2
     split at h3
     ·split at h3
      ·exact ⟨h3.1,h3.2.1,h3.2.2.1,hk _ _ h3.2.2.2⟩
      ·exact h3.elim
     ·exact h3.elim
    ·exact h2.elim
   ·exact h.elim
  ·unfold callK at h ⊢
   split at h
   ·exact h.mono hk
   ·exact h.elim
  ·unfold kqm at h ⊢
   split at h
   ·split at h
    ·exact h.mono hk
    ·obtain ⟨v,hv⟩:=det_loadK _ _ _ _ h
     exact (hv _).2 (((hv _).1 h).mono hk)
    ·exact h.elim
   ·exact h.elim
  ·exact h.elim
 ·exact h.elim
theorem opX_keeps {H:Heap} {ρ:Operand->AV} {o:Oper} {K:AV->Heap->Prop} (hc:lqz o.op=false) (hs:cqq o.op=false) (h:opX P w0 H ρ o K):opX P w0 H ρ o (fun v H'=>aqg H H'/\K v H'):=by
 unfold opX at h ⊢
 split at h
 ·refine ⟨h.1,?_⟩
  have h2:=h.2;unfold fqu at h2 ⊢
  split at h2
  ·exact ⟨h2.1,fun r hr=>⟨.fresh hr _,h2.2 r hr⟩⟩
  ·exact h2.elim
 ·refine ⟨h.1,?_⟩
  have h2:=h.2;unfold fqu at h2 ⊢
  split at h2
  ·exact ⟨h2.1,fun r hr=>⟨.fresh hr _,h2.2 r hr⟩⟩
  ·exact h2.elim
 ·unfold bqi at h ⊢
  split at h
  ·refine ⟨h.1,h.2.1,?_⟩
   have h2:=h.2.2
   split at h2
   ·refine ⟨h2.1,h2.2.1,lq6 (fun c hc=> ?_) _ _ h2.2.2⟩
    simp only [if_true] at hc ⊢
    exact fun r hr=>⟨.fresh hr _,hc r hr⟩
   ·exact h2.elim
  ·exact h.elim
 ·unfold gqq at h ⊢
  split at h
  ·exact ⟨h.1,fun r hr=>⟨.fresh hr _,h.2 r hr⟩⟩
  ·exact h.elim
 ·exact ⟨h.1,fun r hr=>⟨.fresh hr _,h.2 r hr⟩⟩
 ·rename_i e;rw [e] at hs;cases hs
 ·unfold dqt at h ⊢
  split at h
  ·split at h
   ·refine ⟨h.1,h.2.1,h.2.2.1,h.2.2.2.1,h.2.2.2.2.1,?_⟩
    have h2:=h.2.2.2.2.2
    split at h2
    ·exact ⟨h2.1,h2.2.1,fun r hr=>⟨.fresh hr _,h2.2.2 r hr⟩⟩
    ·exact h2.elim
   ·exact h.elim
  ·exact h.elim
 ·exact ⟨h.1,fun r hr=>⟨.fresh hr _,h.2 r hr⟩⟩
 ·rename_i e;rw [e] at hs;cases hs
 ·rename_i e;rw [e] at hs;cases hs
 ·refine ⟨h.1,?_⟩
  have h2:=h.2;unfold lqi at h2 ⊢
  split at h2
  ·exact fun r hr=>⟨.fresh hr _,h2 r hr⟩
  ·exact h2.elim
 ·rename_i e;rw [e] at hs;cases hs
 ·unfold lq8 at h ⊢
  split at h
  ·split at h
   ·exact ⟨.refl _,h⟩
   ·exact h.elim
  ·exact h.elim
 ·unfold eqS at h ⊢
  refine ⟨h.1,?_⟩
  have h2:=h.2
  split at h2
  ·exact ⟨fun hn=>⟨.refl _,h2.1 hn⟩,.refl _,h2.2⟩
  ·exact ⟨.refl _,h2⟩
  ·exact h2.elim
 ·unfold eqS at h ⊢
  refine ⟨h.1,?_⟩
  have h2:=h.2
  split at h2
  ·exact ⟨fun hn=>⟨.refl _,h2.1 hn⟩,.refl _,h2.2⟩
  ·exact ⟨.refl _,h2⟩
  ·exact h2.elim
 ·rename_i c e
  split at h
  ·unfold appK at h ⊢
   split at h
   rotate_left
   ·rename_i hns;rw [if_neg hns]
    unfold growK at h ⊢
    split at h
    ·split at h
     ·refine ⟨h.1,h.2.1,h.2.2.1,h.2.2.2.1,h.2.2.2.2.1,?_⟩
      have h2:=h.2.2.2.2.2
      split at h2
      ·exact ⟨h2.1,h2.2.1,fun r hr=>⟨.fresh hr _,h2.2.2 r hr⟩⟩
      ·exact h2.elim
     ·exact h.elim
    ·exact h.elim
   rename_i hsl;rw [if_pos hsl]
   unfold iq1 at h ⊢
   split at h
   ·refine ⟨h.1,h.2.1,?_⟩
    have h2:=h.2.2
    split at h2
    ·split at h2
     ·refine ⟨h2.1,h2.2.1,?_⟩
      have h3:=h2.2.2
      split at h3
      ·rename_i hH
       refine ⟨h3.1,h3.2.1,h3.2.2.1,h3.2.2.2.1,?_⟩
       have h4:=h3.2.2.2.2
       split at h4
       ·rename_i hc;rw [if_pos hc];exact ⟨(aqg.refl _).updA hH _,h4⟩
       ·rename_i hc;rw [if_neg hc];exact fun r hr=>⟨((aqg.refl _).updA hH _).updN hr _,h4 r hr⟩
      ·exact h3.elim
     ·split at h2
      ·exact ⟨h2.1,h2.2.1,h2.2.2.1,h2.2.2.2.1,fun r hr=>⟨.fresh hr _,h2.2.2.2.2 r hr⟩⟩
      ·exact h2.elim
    ·exact h2.elim
   ·exact h.elim
  ·unfold copyK at h ⊢
   split at h
   ·refine ⟨h.1,?_⟩
    have h2:=h.2
    split at h2
    ·split at h2
     ·split at h2
      ·rename_i hH;exact ⟨h2.1,h2.2.1,h2.2.2.1,(aqg.refl _).updA hH _,h2.2.2.2⟩
      ·exact h2.elim
     ·exact h2.elim
    ·exact h2.elim
   ·exact h.elim
  ·unfold mqc at h ⊢
   split at h
   ·refine ⟨h.1,?_⟩
    have h2:=h.2
    split at h2
    ·refine ⟨h2.1,h2.2.1,?_⟩
     have h3:=h2.2.2
     split at h3
     ·split at h3
      ·rename_i hH;exact ⟨h3.1,h3.2.1,h3.2.2.1,(aqg.refl _).updA hH _,h3.2.2.2⟩
      ·exact h3.elim
     ·exact h3.elim
    ·exact h2.elim
   ·exact h.elim
  ·rename_i e1;rw [e] at hc;simp only [lqz,e1] at hc;cases hc
  ·rename_i e1;rw [e] at hc;simp only [lqz,e1] at hc;cases hc
  ·exact h.elim
 ·exact h.elim
theorem hqz {H:Heap} {ρ ρ':Operand->AV} {o:Oper} {K:AV->Heap->Prop} (hρ:∀ x∈o.op.operands,ρ x=ρ' x) (h:opX P w0 H ρ o K):opX P w0 H ρ' o K:=by
 unfold opX at h ⊢
 generalize ho:o.op=op at h hρ
 cases op with
 | move x=>simp only at h ⊢;rw [<-hρ x (by simp [Op.operands])];exact h
 | assign x=>simp only at h ⊢;rw [<-hρ x (by simp [Op.operands])];exact h
 | buildSlice t len parts=>
  have:(parts.toList.map fun p=>(p.1,ρ p.2))=(parts.toList.map fun p=>(p.1,ρ' p.2)):=by
   apply List.map_congr_left
   intro p hp
   rw [hρ p.2 (by simp [Op.operands];exact ⟨p.1,by simpa using hp⟩)]
  simp only at h ⊢;rw [<-this];exact h
 | alloc t=>exact h
 | box t x=>simp only at h ⊢;rw [<-hρ x (by simp [Op.operands])];exact h
 | store t x y=>simp only at h ⊢;rw [<-hρ x (by simp [Op.operands]),<-hρ y (by simp [Op.operands])];exact h
 | makeSlice t l c=>simp only at h ⊢;rw [<-hρ l (by simp [Op.operands]),<-hρ c (by simp [Op.operands])];exact h
 | makeMap t c=>exact h
 | mapUpdate t x i y=>simp only at h ⊢;rw [<-hρ x (by simp [Op.operands]),<-hρ i (by simp [Op.operands]),<-hρ y (by simp [Op.operands])];exact h
 | insert t x i y=>simp only at h ⊢;rw [<-hρ x (by simp [Op.operands]),<-hρ i (by simp [Op.operands]),<-hρ y (by simp [Op.operands])];exact h
 | range t x=>simp only at h ⊢;rw [<-hρ x (by simp [Op.operands])];exact h
 | next x str=>simp only at h ⊢;rw [<-hρ x (by simp [Op.operands])];exact h
 | entry x=>simp only at h ⊢;rw [<-hρ x (by simp [Op.operands])];exact h
 | binOp op t x y t'=>
  have hx:=hρ x (by simp [Op.operands])
  cases op<;>first | (simp only at h ⊢;rw [<-hx];exact h) | exact h
 | call c=>
  simp only at h ⊢
  have mem:∀ x,x∈c.args.toList->x∈(Op.call c).operands:=fun x hx=>by simp [Op.operands,Call.operands];right;simpa using hx
  split at h
  ·rename_i s x t1 t2 _ e2 _
   rw [<-hρ s (mem s (by rw [e2];simp)),<-hρ x (mem x (by rw [e2];simp))];exact h
  ·rename_i s x t1 t2 _ e2 _
   rw [<-hρ s (mem s (by rw [e2];simp)),<-hρ x (mem x (by rw [e2];simp))];exact h
  ·rename_i s t _ e2 _
   rw [<-hρ s (mem s (by rw [e2];simp))];exact h
  ·rename_i f e1
   have hf:ρ f=ρ' f:=hρ f (by simp [Op.operands,Call.operands,e1])
   have hm:(c.args.toList.map fun x=>wk (ρ x))=(c.args.toList.map fun x=>wk (ρ' x)):=List.map_congr_left fun x hx=>by rw [hρ x (mem x hx)]
   rw [<-hf,<-hm];exact h
  ·rename_i f name e1
   have hf:ρ f=ρ' f:=hρ f (by simp [Op.operands,Call.operands,e1])
   have hm:(c.args.toList.map fun x=>wk (ρ x))=(c.args.toList.map fun x=>wk (ρ' x)):=List.map_congr_left fun x hx=>by rw [hρ x (mem x hx)]
   rw [<-hf,<-hm];exact h
  ·exact h.elim
 | _=>exact h.elim
end
end Go.Am
