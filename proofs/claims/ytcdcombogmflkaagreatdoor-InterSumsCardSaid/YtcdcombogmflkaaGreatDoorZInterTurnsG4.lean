/- Contracts and plain laws that the law InterTurnsG needs, part 4. -/
import Derived.Test.YtcdcombogmflkaaGreatDoorZInterTurnsG3
namespace Go.Am
open Go
section
variable {P:Program} {w0:World} {nt:Nat}
def gOK (g:Option (Option Tmp×Bool)) (env:Env):Bool:=
 match g with
 | none=>true
 | some (none,_)=>false
 | some (some d,want)=>match env d with
  | .sc (.bool b)=>b==want
  | _=>false
theorem bqn (g:Option (Option Tmp×Bool)) (env:Env) (yes no:Env->Prop):gqr g env yes no↔(if gOK g env then yes env else no env):=by
 unfold gqr gOK
 cases g with
 | none=>simp
 | some p=>
  obtain ⟨d,want⟩:=p
  cases d with
  | none=>simp
  | some d=>
   simp only
   split
   ·rename_i b eb
    have key:∀ c,b=c->upd env d (B c)=env:=by
     intro c e;subst e;rw [show B b=env d from eb.symm,hqb]
    simp only [eb]
    by_cases e:b=want
    ·have hb:(b==want)=true:=by simp [e]
     rw [hb];simp only [if_true]
     constructor
     ·intro h;rw [<-key want e];exact h.1 e
     ·intro h;refine ⟨fun _=>by rw [key want e];exact h,fun e'=> ?_⟩
      subst e;cases b<;>simp at e'
    ·have hb:(b==want)=false:=by simp [e]
     have e':b= !want:=by cases b<;>cases want<;>simp_all
     rw [hb];simp only [Bool.false_eq_true,if_false]
     constructor
     ·intro h;rw [<-key (!want) e'];exact h.2 e'
     ·intro h;exact ⟨fun e2=>absurd e2 e,fun _=>by rw [key (!want) e'];exact h⟩
   ·simp
def inSt (st:List Nat) (o:Oper):Bool:=
 match o.dst with
 | some d=>st.contains d
 | none=>false
def allSt (st:List Nat):Bool:=st.contains 9999
def cqr (P:Program) (w0:World) (nt:Nat) (own st:List Nat) (o:Oper) (env:Env) (H:Heap) (K:Env->Heap->Prop):Prop:=
 if eqi own o then opC P (if inSt st o then (if allSt st then H else boxes H) else H) (evO env) o.op (fun v=>putK nt o.dst v env (fun env'=>K env' H))
 else opX P w0 H (evO env) o (fun v H'=>(lqz o.op=true->st≠[]->aqg H H')/\(allSt st=true->cqq o.op=false->Sub H H')/\putK nt o.dst v env (fun env'=>K env' H'))
def cqy (P:Program) (w0:World) (nt:Nat) (own st:List Nat) (ops:Array Oper) (o:Oper) (env:Env) (H:Heap) (K:Env->Heap->Prop):Prop:=
 gqr (cq0 ops o) env (fun env=>cqr P w0 nt own st o env H K) (fun env=>putK nt o.dst (.sc undef) env (fun env=>K env H))
def dq4 (P:Program) (w0:World) (nt:Nat) (own st:List Nat) (ops:Array Oper):List Oper->Env->Heap->(Env->Heap->Prop)->Prop
 | [],env,H,K=>K env H
 | o::rest,env,H,K=>cqy P w0 nt own st ops o env H (fun env H=>dq4 P w0 nt own st ops rest env H K)
theorem evalOpD_op {own st:List Nat} {o:Oper} {env:Env} {H:Heap} {K:Env->Heap->Prop} (h:cqr P w0 nt own st o env H K):fqi P w0 nt own o env H K:=by
 unfold cqr at h
 unfold fqi
 split at h
 ·rename_i hp
  rw [if_pos hp]
  split at h
  ·split at h
   ·exact h
   ·exact mqx (boxes_sub H) _ _ _ h
  ·exact h
 ·rename_i hp
  rw [if_neg hp]
  exact dq8 h fun v H' k=>k.2.2
theorem stepD_step {own st:List Nat} {ops:Array Oper} {o:Oper} {env:Env} {H:Heap} {K:Env->Heap->Prop} (h:cqy P w0 nt own st ops o env H K):stepA P w0 nt own ops o env H K:=by
 unfold cqy at h;unfold stepA
 rw [bqn] at h ⊢
 split at h
 ·rename_i e;rw [if_pos e];exact evalOpD_op h
 ·rename_i e;rw [if_neg e];exact h
theorem bqr {dst:Option Tmp} {v:AV} {env:Env} {K K':Env->Prop} (h:putK nt dst v env K) (hk:∀ e,K e->K' e):putK nt dst v env K':=by
 cases dst with
 | none=>exact hk _ h
 | some d=>exact ⟨h.1,hk _ h.2⟩
theorem evalOpD_mono {own st:List Nat} {o:Oper} {env:Env} {H:Heap} {K K':Env->Heap->Prop} (h:cqr P w0 nt own st o env H K) (hk:∀ e H',K e H'->K' e H'):cqr P w0 nt own st o env H K':=by
 unfold cqr at h ⊢
 split at h
 ·rename_i hp;rw [if_pos hp]
  exact (iqw _ _ _).mono h fun v k=>bqr k fun e=>hk e H
 ·rename_i hp;rw [if_neg hp]
  exact dq8 h fun v H' k=>⟨k.1,k.2.1,bqr k.2.2 fun e=>hk e H'⟩
theorem cq2 {own st:List Nat} {ops:Array Oper} {o:Oper} {env:Env} {H:Heap} {K K':Env->Heap->Prop} (h:cqy P w0 nt own st ops o env H K) (hk:∀ e H',K e H'->K' e H'):cqy P w0 nt own st ops o env H K':=by
 unfold cqy at h ⊢
 rw [bqn] at h ⊢
 split at h
 ·rename_i e;rw [if_pos e];exact evalOpD_mono h hk
 ·rename_i e;rw [if_neg e];exact bqr h fun e=>hk e H
structure Left (own st:List Nat) (y:Oper) (env:Env) (H:Heap) (e:Env) (h:Heap):Prop where
 slot:∀ i,y.dst≠some i->e i=env i
 heap:eqi own y=true->h=H
 box:st≠[]->cqq y.op=false->aqg H h
 all:allSt st=true->cqq y.op=false->Sub H h
theorem dqf {dst:Option Tmp} {v:AV} {env:Env} {K:Env->Prop} (h:putK nt dst v env K):putK nt dst v env (fun e=>(∀ i,dst≠some i->e i=env i)/\K e):=by
 cases dst with
 | none=>exact ⟨fun _ _=>rfl,h⟩
 | some d=>exact ⟨h.1,fun i hi=>aqm _ _ _ (fun e=>hi (by rw [e])),h.2⟩
theorem iql {own st:List Nat} {ops:Array Oper} {y:Oper} {env:Env} {H:Heap} {K:Env->Heap->Prop} (h:cqy P w0 nt own st ops y env H K):
  cqy P w0 nt own st ops y env H (fun e h=>Left own st y env H e h/\K e h):=by
 unfold cqy at h ⊢
 rw [bqn] at h ⊢
 split at h
 ·rename_i eg;rw [if_pos eg]
  unfold cqr at h ⊢
  split at h
  ·rename_i hp;rw [if_pos hp]
   exact (iqw _ _ _).mono h fun v k=>bqr (dqf k) fun e ⟨a,b⟩=>⟨⟨a,fun _=>rfl,fun _ _=> .refl _,fun _ _=> .refl _⟩,b⟩
  ·rename_i hp;rw [if_neg hp]
   by_cases hc:lqz y.op=true
   ·exact dq8 h fun v H' k=>⟨k.1,k.2.1,bqr (dqf k.2.2) fun e ⟨a,b⟩=>⟨⟨a,fun h0=>absurd h0 hp,fun h1 _=>k.1 hc h1,k.2.1⟩,b⟩⟩
   ·by_cases hs:cqq y.op=true
    ·exact dq8 h fun v H' k=>⟨k.1,k.2.1,bqr (dqf k.2.2) fun e ⟨a,b⟩=>⟨⟨a,fun h0=>absurd h0 hp,fun _ h1=>(by rw [hs] at h1;cases h1),k.2.1⟩,b⟩⟩
    ·exact dq8 (opX_keeps (by simpa using hc) (by simpa using hs) h) fun v H' k=>⟨k.2.1,k.2.2.1,bqr (dqf k.2.2.2) fun e ⟨a,b⟩=>⟨⟨a,fun h0=>absurd h0 hp,fun _ _=>k.1,k.2.2.1⟩,b⟩⟩
 ·rename_i eg;rw [if_neg eg]
  exact bqr (dqf h) fun e ⟨a,b⟩=>⟨⟨a,fun _=>rfl,fun _ _=> .refl _,fun _ _=> .refl _⟩,b⟩
theorem iqu {env env':Env} {ops:Array Oper} {y:Oper} (h:∀ i,i∈y.looksAt ops->env' i=env i):∀ x∈y.op.operands,evO env' x=evO env x:=by
 intro x hx
 cases x with
 | tmp t=>
  refine h t ?_
  unfold Oper.looksAt
  rw [List.mem_append]
  left
  rw [List.mem_filterMap]
  exact ⟨.tmp t,by simpa using hx,rfl⟩
 | _=>rfl
theorem fq1 {env env':Env} {ops:Array Oper} {y:Oper} (h:∀ i,i∈y.looksAt ops->env' i=env i):gOK (cq0 ops y) env'=gOK (cq0 ops y) env:=by
 unfold cq0 gOK
 cases hg:y.guard with
 | none=>rfl
 | some p=>
  obtain ⟨j,want⟩:=p
  simp only
  cases hd:(ops[j]?).bind (·.dst) with
  | none=>rfl
  | some d=>
   have:env' d=env d:=h d (by unfold Oper.looksAt;simp [hg,hd])
   simp only [this]
theorem jq9 {own st:List Nat} {ops:Array Oper} {y:Oper} {env:Env} {H:Heap} {K:Env->Heap->Prop} {d:Nat} {v:AV} (h1:d∉y.looksAt ops) (h2:y.dst≠some d):
  cqy P w0 nt own st ops y (upd env d v) H K↔cqy P w0 nt own st ops y env H (fun e h=>K (upd e d v) h):=by
 have hl:∀ i,i∈y.looksAt ops->(upd env d v) i=env i:=fun i hi=>aqm _ _ _ (fun e=>h1 (e▸hi))
 have hop:=iqu hl
 have hput:∀ (u:AV) (L:Env->Prop),putK nt y.dst u (upd env d v) L↔putK nt y.dst u env (fun e=>L (upd e d v)):=by
  intro u L
  cases hd:y.dst with
  | none=>exact Iff.rfl
  | some d'=>
   have hne:d≠d':=fun e=>h2 (by rw [hd,e])
   simp only [putK]
   rw [aq9 env v u hne]
 unfold cqy
 rw [bqn,bqn,fq1 hl]
 split
 ·unfold cqr
  split
  ·rw [hq1 _ _ hop]
   simp only [hput]
  ·simp only [hput]
   exact ⟨hqz hop,hqz (fun x hx=>(hop x hx).symm)⟩
 ·exact hput _ _
theorem stepD_det {own st:List Nat} {ops:Array Oper} {x:Oper} (hp:eqi own x=true) {env:Env} {H:Heap} {K:Env->Heap->Prop} (h:cqy P w0 nt own st ops x env H K):
  ∃ v,putK nt x.dst v env (fun e=>K e H)/\∀ (e:Env) (H':Heap) (K':Env->Heap->Prop),(∀ i,i∈x.looksAt ops->e i=env i)->(H'=H\/heapy x.op=false\/(inSt st x=true/\aqg H H'/\(allSt st=true->Sub H H')))->
   putK nt x.dst v e (fun e=>K' e H')->cqy P w0 nt own st ops x e H' K':=by
 unfold cqy at h
 rw [bqn] at h
 split at h
 ·rename_i eg
  unfold cqr at h
  rw [if_pos hp] at h
  obtain ⟨v,hv⟩:=iqw (P:=P) _ _ _ _ h
  refine ⟨v,(hv _).1 h,fun e H' K' he hH hput=> ?_⟩
  unfold cqy
  rw [bqn,fq1 he,if_pos eg]
  unfold cqr
  rw [if_pos hp,hq1 _ _ (iqu he)]
  have h0:=(hv (fun v=>putK nt x.dst v e (fun e=>K' e H'))).2 hput
  rcases hH with rfl | hf | ⟨hs,hk,hall⟩
  ·exact h0
  ·exact opC_free _ _ hf _ h0
  ·rw [if_pos hs] at h0 ⊢
   by_cases ha:allSt st=true
   ·rw [if_pos ha] at h0 ⊢
    exact mqx (hall ha) _ _ _ h0
   ·rw [if_neg ha] at h0 ⊢
    exact mqx hk.boxes _ _ _ h0
 ·rename_i eg
  refine ⟨.sc undef,h,fun e H' K' he hH hput=> ?_⟩
  unfold cqy
  rw [bqn,fq1 he,if_neg eg]
  exact hput
def lqo (own st:List Nat) (nt:Nat) (ops:Array Oper) (x y:Oper):Bool:=
 x.apart ops y&&((eqi own x&&(eqi own y || !heapy x.op||(inSt st x&& !cqq y.op&&st !=[]))) ||
  (match y.op with
   | .move _ | .assign _=>eqi own y&&(match y.dst with | some d=>decide (d<nt) | none=>true)
   | _=>false))
theorem iq2 {x y:Oper} {ops:Array Oper} (h:x.apart ops y=true):
  (∀ d,x.dst=some d->d∉y.looksAt ops)/\(∀ d,x.dst=some d->y.dst≠some d)/\(∀ d,y.dst=some d->d∉x.looksAt ops):=Oper.apart_spec h
theorem swap_ok {own st:List Nat} {ops:Array Oper} {x y:Oper} (h:lqo own st nt ops x y=true) {env:Env} {H:Heap} {K:Env->Heap->Prop}
  (hs:cqy P w0 nt own st ops x env H (fun e h=>cqy P w0 nt own st ops y e h K)):cqy P w0 nt own st ops y env H (fun e h=>cqy P w0 nt own st ops x e h K):=by
 unfold lqo at h
 rw [Bool.and_eq_true,Bool.or_eq_true] at h
 obtain ⟨hap,hor⟩:=h
 obtain ⟨a1,a2,a3⟩:=iq2 hap
 rcases hor with hor | hor
 ·-- x reckons on slots
  rw [Bool.and_eq_true] at hor
  obtain ⟨hp,hor⟩:=hor
  obtain ⟨v,hput,hdet⟩:=stepD_det hp hs
  have fin:∀ e h,Left own st y env H e h->putK nt x.dst v e (fun e=>K e h)->cqy P w0 nt own st ops x e h K:=by
   intro e h hl hpk
   refine hdet e h K (fun i hi=>hl.slot i (fun e0=>a3 i e0 hi)) ?_ hpk
   simp only [Bool.or_eq_true,Bool.not_eq_true',Bool.and_eq_true,bne_iff_ne,ne_eq] at hor
   rcases hor with (hy | hf) | ⟨⟨h1,h2⟩,h3⟩
   ·exact .inl (hl.heap hy)
   ·exact .inr (.inl hf)
   ·exact .inr (.inr ⟨h1,hl.box h3 h2,fun ha=>hl.all ha h2⟩)
  cases hd:x.dst with
  | none=>
   rw [hd] at hput
   simp only [putK] at hput
   refine cq2 (iql hput) fun e h ⟨hl,k⟩=>fin e h hl ?_
   rw [hd];exact k
  | some d=>
   rw [hd] at hput
   obtain ⟨hlt,hput⟩:=hput
   rw [jq9 (a1 d hd) (a2 d hd)] at hput
   refine cq2 (iql hput) fun e h ⟨hl,k⟩=>fin e h hl ?_
   rw [hd];exact ⟨hlt,k⟩
 ·-- y is a move
  have hmv:∃ z,(y.op= .move z\/y.op= .assign z)/\eqi own y=true/\∀ d,y.dst=some d->d<nt:=by
   split at hor
   ·rename_i z e
    rw [Bool.and_eq_true] at hor
    exact ⟨z,.inl e,hor.1,fun d hd=>by have:=hor.2;rw [hd] at this;simpa using this⟩
   ·rename_i z e
    rw [Bool.and_eq_true] at hor
    exact ⟨z,.inr e,hor.1,fun d hd=>by have:=hor.2;rw [hd] at this;simpa using this⟩
   ·cases hor
  obtain ⟨z,hyop,hyp,hlt⟩:=hmv
  obtain ⟨v,hv⟩:∃ v,∀ (e:Env) (H':Heap) (K':Env->Heap->Prop),(∀ i,i∈y.looksAt ops->e i=env i)->(cqy P w0 nt own st ops y e H' K'↔putK nt y.dst v e (fun e=>K' e H')):=by
   refine ⟨if gOK (cq0 ops y) env then evO env z else .sc undef,fun e H' K' he=> ?_⟩
   unfold cqy
   rw [bqn,fq1 he]
   split
   ·unfold cqr
    rw [if_pos hyp]
    have hop:z∈y.op.operands:=by rcases hyop with e0 | e0<;>simp [e0,Op.operands]
    have hz:=iqu he z hop
    rcases hyop with e0 | e0<;>simp only [e0,opC,hz]
   ·exact Iff.rfl
  have h1:cqy P w0 nt own st ops x env H (fun e h=>putK nt y.dst v e (fun e=>K e h)):=by
   refine cq2 (iql hs) fun e h ⟨hl,k⟩=> ?_
   exact (hv e h K (fun i hi=>hl.slot i (fun e0=>a1 i e0 hi))).1 k
  rw [hv env H _ (fun _ _=>rfl)]
  cases hd:y.dst with
  | none=>rw [hd] at h1;exact h1
  | some d=>
   rw [hd] at h1
   have h2:d∉x.looksAt ops:=a3 d hd
   have h3:x.dst≠some d:=fun e0=>a2 d e0 hd
   exact ⟨hlt d hd,(jq9 h2 h3).2 (cq2 h1 fun e h k=>k.2)⟩
end
end Go.Am
namespace Go.Am
open Go
section
variable {P:Program} {w0:World} {nt:Nat}
def dql (acc:List Nat) (o:Oper):Nat:=
 o.after.toList.foldl (fun s e=>if Region.binds .any e then s ||| (2^e.on ||| acc.getD e.on 0) else s) 0
def dq5:List Oper->List Nat->List Nat
 | [],acc=>acc
 | o::l,acc=>dq5 l (acc++[dql acc o])
theorem masks_prefix:∀ (l:List Oper) (acc:List Nat),∃ t,dq5 l acc=acc++t/\t.length=l.length:=by
 intro l
 induction l with
 | nil=>intro acc;exact ⟨[],by simp [dq5],rfl⟩
 | cons o l ih=>
  intro acc
  obtain ⟨t,ht,hl⟩:=ih (acc++[dql acc o])
  exact ⟨dql acc o::t,by rw [dq5,ht];simp,by simp [hl]⟩
theorem foldl_or_bit (f:Nat->Nat) (i:Nat):∀ (l:List Edge) (s:Nat),
  (l.foldl (fun s e=>if Region.binds .any e then s ||| f e.on else s) s).testBit i=true↔s.testBit i=true\/∃ e∈l,Region.binds .any e=true/\(f e.on).testBit i=true:=by
 intro l
 induction l with
 | nil=>intro s;simp
 | cons e l ih=>
  intro s
  simp only [List.foldl_cons]
  rw [ih]
  by_cases hb:Region.binds .any e=true
  ·simp only [hb,if_true,Nat.testBit_or,Bool.or_eq_true]
   constructor
   ·rintro ((h | h) | ⟨e',he,h⟩)
    ·exact .inl h
    ·exact .inr ⟨e,by simp,hb,h⟩
    ·exact .inr ⟨e',by simp [he],h⟩
   ·rintro (h | ⟨e',he,h⟩)
    ·exact .inl (.inl h)
    ·rcases List.mem_cons.1 he with rfl | he
     ·exact .inl (.inr h.2)
     ·exact .inr ⟨e',he,h⟩
  ·simp only [hb,Bool.false_eq_true,if_false]
   constructor
   ·rintro (h | ⟨e',he,h⟩)
    ·exact .inl h
    ·exact .inr ⟨e',by simp [he],h⟩
   ·rintro (h | ⟨e',he,h⟩)
    ·exact .inl h
    ·rcases List.mem_cons.1 he with rfl | he
     ·exact absurd h.1 hb
     ·exact .inr ⟨e',he,h⟩
theorem lqt (D:Nat->Prop):∀ (l:List Oper) (acc:List Nat),
  (∀ i j,i<acc.length->D i->(acc.getD i 0).testBit j=true->D j)->
  (∀ (i:Nat) (o:Oper),l[i]? =some o->D (acc.length+i)->∀ e∈o.after,Region.binds .any e=true->D e.on)->
  (∀ (i:Nat) (o:Oper),l[i]? =some o->∀ e∈o.after,Region.binds .any e=true->e.on<acc.length+i)->
  ∀ (i:Nat) (o:Oper),l[i]? =some o->(∀ e∈o.after,Region.binds .any e=true->D e.on)->∀ j,((dq5 l acc).getD (acc.length+i) 0).testBit j=true->D j:=by
 intro l
 induction l with
 | nil=>intro acc _ _ _ i o h;simp at h
 | cons o l ih=>
  intro acc hacc hdone hlt i o' hi hpre j hj
  have first:(∀ e∈o.after,Region.binds .any e=true->D e.on)->∀ j,(dql acc o).testBit j=true->D j:=by
   intro hp j hj
   unfold dql at hj
   rw [foldl_or_bit (fun n=>2^n ||| acc.getD n 0)] at hj
   rcases hj with hj | ⟨e,he,hb,hj⟩
   ·simp at hj
   ·have he':e∈o.after:=by simpa using he
    rw [Nat.testBit_or,Bool.or_eq_true] at hj
    rcases hj with hj | hj
    ·have:e.on=j:=by
      rw [Nat.testBit_two_pow] at hj
      simpa using hj
     rw [<-this];exact hp e he' hb
    ·exact hacc e.on j (by have:=hlt 0 o rfl e he' hb;simpa using this) (hp e he' hb) hj
  have hacc':∀ i j,i<(acc++[dql acc o]).length->D i->((acc++[dql acc o]).getD i 0).testBit j=true->D j:=by
   intro i j hi hd hb
   simp only [List.length_append,List.length_singleton] at hi
   by_cases h:i<acc.length
   ·have e0:(acc++[dql acc o]).getD i 0=acc.getD i 0:=by simp [List.getD_eq_getElem?_getD,List.getElem?_append_left h]
    rw [e0] at hb;exact hacc i j h hd hb
   ·have:i=acc.length:=by omega
    subst this
    have e0:(acc++[dql acc o]).getD acc.length 0=dql acc o:=by simp [List.getD_eq_getElem?_getD]
    rw [e0] at hb
    exact first (fun e he hbn=>hdone 0 o rfl hd e he hbn) j hb
  cases i with
  | zero=>
   simp at hi;subst hi
   obtain ⟨t,ht,_⟩:=masks_prefix l (acc++[dql acc o])
   have e0:(dq5 (o::l) acc).getD (acc.length+0) 0=dql acc o:=by
    rw [dq5,ht];simp [List.getD_eq_getElem?_getD]
   rw [e0] at hj
   exact first hpre j hj
  | succ i=>
   have e1:(acc++[dql acc o]).length+i=acc.length+(i+1):=by simp;omega
   refine ih (acc++[dql acc o]) hacc' ?_ ?_ i o' (by simpa using hi) hpre j ?_
   ·intro i2 o2 h2 hd
    have e2:(acc++[dql acc o]).length+i2=acc.length+(i2+1):=by simp;omega
    rw [e2] at hd
    exact hdone (i2+1) o2 (by simpa using h2) hd
   ·intro i2 o2 h2 e he hbe
    have e2:(acc++[dql acc o]).length+i2=acc.length+(i2+1):=by simp;omega
    rw [e2]
    exact hlt (i2+1) o2 (by simpa using h2) e he hbe
   ·rw [dq5] at hj;rw [e1];exact hj
def gqo (own st:List Nat) (nt:Nat) (ops:Array Oper) (ms:List Nat):List Nat->Bool
 | []=>true
 | x::L=>(L.all fun y=>(ms.getD y 0).testBit x||(match ops[x]?,ops[y]? with
   | some ox,some oy=>lqo own st nt ops ox oy
   | _,_=>false))&&gqo own st nt ops ms L
def fqh (own st:List Nat) (nt:Nat) (ops:Array Oper) (L:List Nat):Bool:=
 gqo own st nt ops (dq5 ops.toList []) L&&(ops.toList.zipIdx.all fun p=>p.1.after.toList.all fun e=> !Region.binds .any e||decide (e.on<p.2))&&
 (List.range ops.size).all (fun i=>L.contains i)&&L.all (fun i=>decide (i<ops.size))&&decide (L.length=ops.size)
def runD (P:Program) (w0:World) (nt:Nat) (own st:List Nat) (ops:Array Oper):List Nat->Env->Heap->(Env->Heap->Prop)->Prop
 | [],env,H,K=>K env H
 | i::L,env,H,K=>match ops[i]? with
  | some o=>cqy P w0 nt own st ops o env H (fun env H=>runD P w0 nt own st ops L env H K)
  | none=>runD P w0 nt own st ops L env H K
theorem runD_front {own st:List Nat} {ops:Array Oper} {y:Nat} {oy:Oper} (hy:ops[y]? =some oy):∀ (A B:List Nat) {env:Env} {H:Heap} {K:Env->Heap->Prop},
  (∀ x∈A,∃ ox,ops[x]? =some ox/\lqo own st nt ops ox oy=true)->runD P w0 nt own st ops (A++y::B) env H K->runD P w0 nt own st ops (y::(A++B)) env H K:=by
 intro A
 induction A with
 | nil=>intro B env H K _ h;exact h
 | cons x A ih=>
  intro B env H K hA h
  obtain ⟨ox,hx,hok⟩:=hA x (by simp)
  simp only [List.cons_append,runD,hx,hy] at h ⊢
  have h1:=cq2 h fun e h' k=>ih B (fun z hz=>hA z (by simp [hz])) k
  simp only [runD,hy] at h1
  exact swap_ok hok h1
theorem runD_any {own st:List Nat} {ops:Array Oper} (hedge:∀ (i:Nat) (o:Oper),ops[i]? =some o->∀ e∈o.after,Region.binds .any e=true->e.on<i):
  ∀ (fuel:Nat) (L:List Nat) (listed:Array Bool) (env:Env) (H:Heap) (K:Env->Heap->Prop),gqo own st nt ops (dq5 ops.toList []) L=true->L.Nodup->listed.size=ops.size->
  (∀ i,i<ops.size->(i∈L↔listed.getD i true=false))->(∀ i∈L,i<ops.size)->
  (∀ (i:Nat) (o:Oper),ops[i]? =some o->listed.getD i false=true->∀ e∈o.after,Region.binds .any e=true->listed.getD e.on false=true)->L.length<=fuel->
  runD P w0 nt own st ops L env H K->∀ w F M a,Rel w0 w F M H->EnvR F M nt env a->∀ Q:Exit->Act->World->Prop,
   (∀ env' H' F' M' a' w',Ext F F' M M'->Rel w0 w' F' M' H'->EnvR F' M' nt env' a'->K env' H'->Q .normal a' w')->wpAny P .any ops Q fuel listed a w:=by
 intro fuel
 induction fuel with
 | zero=>
  intro L listed env H K _ _ hsz hL hLt _ hfuel h w F M a r er Q hn
  have:L=[]:=List.eq_nil_of_length_eq_zero (by omega)
  subst this
  refine ⟨?_,hn env H F M a w (Ext.refl _ _) r er h⟩
  rw [List.eq_nil_iff_forall_not_mem]
  intro i hi
  rw [mem_ready] at hi
  obtain ⟨h0,o,ho,_⟩:=hi
  have:=(hL i (Array.getElem?_eq_some_iff.1 ho).1).2 h0
  cases this
 | succ fuel ih=>
  intro L listed env H K hok hnd hsz hL hLt hcl hfuel h w F M a r er Q hn
  refine ⟨fun hr=> ?_,fun y hy=> ?_⟩
  ·-- nobody is ready:nobody is left
   have:L=[]:=by
    cases hLL:L with
    | nil=>rfl
    | cons x0 L0=>
     exfalso
     have hex:∃ i,i∈L/\∀ j∈L,i<=j:=by
      have:∀ (l:List Nat),l≠[]->∃ i,i∈l/\∀ j∈l,i<=j:=by
       intro l
       induction l with
       | nil=>intro h;exact absurd rfl h
       | cons a l ihl=>
        intro _
        cases l with
        | nil=>exact ⟨a,by simp,fun j hj=>by simp at hj;omega⟩
        | cons b l=>
         obtain ⟨i,hi,hmin⟩:=ihl (by simp)
         by_cases hab:a<=i
         ·exact ⟨a,by simp,fun j hj=>by
           rcases List.mem_cons.1 hj with rfl | hj
           ·exact Nat.le_refl _
           ·exact Nat.le_trans hab (hmin j hj)⟩
         ·exact ⟨i,by simp at hi ⊢;exact .inr hi,fun j hj=>by
           rcases List.mem_cons.1 hj with rfl | hj
           ·omega
           ·exact hmin j hj⟩
      exact this L (by rw [hLL];simp)
     obtain ⟨i,hi,hmin⟩:=hex
     have hlt:=hLt i hi
     have hi0:=(hL i hlt).1 hi
     have hmem:i∈Region.ready .any ops listed:=by
      rw [mem_ready]
      refine ⟨hi0,ops[i],by simp [hlt],fun e he hbe=> ?_⟩
      have he':=hedge i ops[i] (by simp [hlt]) e he hbe
      have hnot:e.on∉L:=fun hm=>by have:=hmin _ hm;omega
      have hlt':e.on<listed.size:=by omega
      have:=mt (hL e.on (by omega)).2 hnot
      simp [Array.getD_eq_getD_getElem?,hlt'] at this ⊢
      exact this
     rw [hr] at hmem;cases hmem
   subst this
   exact hn env H F M a w (Ext.refl _ _) r er h
  ·have hy':=mem_ready.1 hy
   obtain ⟨hy0,oy,hoy,hpre⟩:=hy'
   have hylt:=(Array.getElem?_eq_some_iff.1 hoy).1
   have hyL:=(hL y hylt).2 hy0
   obtain ⟨A,B,rfl⟩:=List.append_of_mem hyL
   have hA:∀ x∈A,∃ ox,ops[x]? =some ox/\lqo own st nt ops ox oy=true:=by
    intro x hx
    have hpair:∀ (A:List Nat),gqo own st nt ops (dq5 ops.toList []) (A++y::B)=true->x∈A->((dq5 ops.toList []).getD y 0).testBit x=true\/(match ops[x]?,ops[y]? with
      | some ox,some oy=>lqo own st nt ops ox oy
      | _,_=>false)=true:=by
     intro A
     induction A with
     | nil=>intro _ h;cases h
     | cons z A ihA=>
      intro h hx
      simp only [List.cons_append,gqo,Bool.and_eq_true,List.all_eq_true] at h
      rcases List.mem_cons.1 hx with rfl | hx
      ·have:=h.1 y (by simp)
       rwa [Bool.or_eq_true] at this
      ·exact ihA h.2 hx
    rcases hpair A hok hx with hm | hm
    ·exfalso
     have hd:=lqt (fun j=>listed.getD j false=true) ops.toList [] (by simp) (fun i o hi hd e he hb=>hcl i o (by simpa using hi) (by simpa using hd) e he hb) (fun i o hi e he hbe=>by simpa using hedge i o (by simpa using hi) e he hbe) y oy (by simpa using hoy)
      (fun e he hb=>hpre e he hb) x (by simpa using hm)
     have hxlt:=hLt x (by simp [hx])
     have hx0:=(hL x hxlt).1 (by simp [hx])
     have hxl:x<listed.size:=by omega
     simp [Array.getD_eq_getD_getElem?,hxl] at hd hx0
     rw [hd] at hx0;cases hx0
    ·rw [hoy] at hm
     cases hox:ops[x]? with
     | none=>rw [hox] at hm;cases hm
     | some ox=>rw [hox] at hm;exact ⟨ox,rfl,hm⟩
   have hf:=runD_front hoy A B hA h
   simp only [runD,hoy] at hf
   have hndAB:(A++B).Nodup/\y∉A++B:=by
    rw [List.nodup_append] at hnd
    obtain ⟨n1,n2,n3⟩:=hnd
    rw [List.nodup_cons] at n2
    refine ⟨List.nodup_append.2 ⟨n1,n2.2,fun a ha b hb=>n3 a ha b (by simp [hb])⟩,?_⟩
    rw [List.mem_append]
    rintro (hm | hm)
    ·exact n3 y hm y (by simp) rfl
    ·exact n2.1 hm
   have hokAB:∀ (A:List Nat),gqo own st nt ops (dq5 ops.toList []) (A++y::B)=true->gqo own st nt ops (dq5 ops.toList []) (A++B)=true:=by
    intro A
    induction A with
    | nil=>intro h;simp only [List.nil_append,gqo,Bool.and_eq_true] at h;exact h.2
    | cons z A ihA=>
     intro h
     simp only [List.cons_append,gqo,Bool.and_eq_true,List.all_eq_true] at h ⊢
     exact ⟨fun q hq=>h.1 q (by
      rw [List.mem_append] at hq ⊢
      rcases hq with hq | hq
      ·exact .inl hq
      ·exact .inr (by simp [hq])),ihA h.2⟩
   have hylisted:y<listed.size:=by omega
   have st':=mqp (Q:=Q) (next:=wpAny P .any ops Q fuel (listed.setIfInBounds y true)) (stepD_step hf) r er (fun env' H' F' M' a' w' x r' er' k=>
    ih (A++B) (listed.setIfInBounds y true) env' H' K (hokAB A hok) hndAB.1 (by simp [hsz])
     (fun i hi=>by
      have hiL:=hL i hi
      have hil:i<listed.size:=by omega
      by_cases e:i=y
      ·subst e
       simp [Array.getD_eq_getD_getElem?,hil]
       have:=hndAB.2;rw [List.mem_append] at this;exact not_or.1 this
      ·have hne:¬y=i:=fun e0=>e e0.symm
       rw [getD_set_ne true hne,<-hiL]
       simp [e])
     (fun i hi=>hLt i (by
      rw [List.mem_append] at hi ⊢
      rcases hi with hi | hi
      ·exact .inl hi
      ·exact .inr (by simp [hi])))
     (fun i o ho hd e he hb=>by
      by_cases e0:i=y
      ·subst e0
       rw [hoy] at ho;cases ho
       exact getD_set_true (hpre e he hb)
      ·have hne:¬y=i:=fun e1=>e0 e1.symm
       rw [getD_set_ne false hne] at hd
       exact getD_set_true (hcl i o ho hd e he hb))
     (by simp at hfuel ⊢;omega) k w' F' M' a' r' er' Q (fun env'' H'' F'' M'' a'' w'' x' r'' er'' k'=>hn env'' H'' F'' M'' a'' w'' (x.trans x') r'' er'' k'))
   unfold wpOp
   simp only [hoy]
   split
   ·rename_i hw;rw [if_pos hw] at st';exact .inl st'
   ·rename_i hw;rw [if_neg hw] at st';exact st'
theorem okDraw_spec {own st:List Nat} {ops:Array Oper} {L:List Nat} (h:fqh own st nt ops L=true):
  gqo own st nt ops (dq5 ops.toList []) L=true/\(∀ (i:Nat) (o:Oper),ops[i]? =some o->∀ e∈o.after,Region.binds .any e=true->e.on<i)/\(∀ i,i<ops.size->i∈L)/\(∀ i∈L,i<ops.size)/\L.length=ops.size:=by
 unfold fqh at h
 simp only [Bool.and_eq_true,List.all_eq_true,decide_eq_true_eq,List.mem_range,List.contains_eq_mem] at h
 obtain ⟨⟨⟨⟨h1,h2⟩,h3⟩,h4⟩,h5⟩:=h
 refine ⟨h1,fun i o ho e he hbe=> ?_,h3,h4,h5⟩
 have hm:(o,i)∈ops.toList.zipIdx:=by
  rw [List.mem_zipIdx_iff_getElem?]
  simpa using ho
 have:=h2 (o,i) hm e (by simpa using he)
 rw [hbe] at this
 simpa using this
theorem hq3:∀ (n:Nat) (L:List Nat),(∀ i,i<n->i∈L)->L.length=n->L.Nodup:=by
 intro n
 induction n with
 | zero=>intro L _ hl;rw [List.eq_nil_of_length_eq_zero hl];exact List.nodup_nil
 | succ n ih=>
  intro L hf hl
  obtain ⟨A,B,rfl⟩:=List.append_of_mem (hf n (by omega))
  have hin:∀ i,i<n->i∈A++B:=by
   intro i hi
   have:=hf i (by omega)
   rw [List.mem_append,List.mem_cons] at this
   rw [List.mem_append]
   rcases this with h | h | h
   ·exact .inl h
   ·omega
   ·exact .inr h
  have hl':(A++B).length=n:=by simp at hl ⊢;omega
  have hnd:=ih _ hin hl'
  have hnn:n∉A++B:=by
   intro hm
   obtain ⟨C,D,hCD⟩:=List.append_of_mem hm
   rw [hCD] at hin hl' hnd
   have hin':∀ i,i<n->i∈C++D:=by
    intro i hi
    have:=hin i hi
    rw [List.mem_append,List.mem_cons] at this
    rw [List.mem_append]
    rcases this with h | h | h
    ·exact .inl h
    ·omega
    ·exact .inr h
   have hlen:n<=(C++D).length:=by
    have:∀ (n:Nat) (L:List Nat),(∀ i,i<n->i∈L)->n<=L.length:=by
     intro n
     induction n with
     | zero=>intro L _;omega
     | succ n ih2=>
      intro L hL
      obtain ⟨A2,B2,rfl⟩:=List.append_of_mem (hL n (by omega))
      have:=ih2 (A2++B2) (fun i hi=>by
       have:=hL i (by omega)
       rw [List.mem_append,List.mem_cons] at this
       rw [List.mem_append]
       rcases this with h | h | h
       ·exact .inl h
       ·omega
       ·exact .inr h)
      simp at this ⊢;omega
    exact this n _ hin'
   simp at hl' hlen;omega
  rw [List.nodup_append] at hnd ⊢
  obtain ⟨n1,n2,n3⟩:=hnd
  rw [List.mem_append] at hnn
  have hnA:n∉A:=fun h=>hnn (.inl h)
  have hnB:n∉B:=fun h=>hnn (.inr h)
  refine ⟨n1,List.nodup_cons.2 ⟨hnB,n2⟩,fun a ha b hb=> ?_⟩
  rcases List.mem_cons.1 hb with rfl | hb
  ·intro e;subst e;exact hnA ha
  ·exact n3 a ha b hb
theorem gqp (hm:P.follows .mixedOrders=true) (own st L:List Nat) {id:Nat} {ops:Array Oper} {Q:Exit->Env->Heap->Prop} {env:Env} {H:Heap} (hok:fqh own st nt ops L=true)
  (h:runD P w0 nt own st ops L env H (Q .normal)):AWP P w0 nt (.region id ops true) Q env H:=by
 intro w F M a r er
 obtain ⟨h1,h2,h3,h4,h5⟩:=okDraw_spec hok
 refine wp_region_any hm (runD_any h2 ops.size L _ env H (Q .normal) h1 (hq3 _ _ h3 h5) (by simp) ?_ h4 ?_ (by omega) h _ F M a r.drew er _ ?_)
 ·intro i hi
  simp [hi,h3 i hi]
 ·intro i o _ hd
  exfalso
  by_cases hlt:i<ops.size
  ·simp [hlt] at hd
  ·simp [hlt] at hd
 ·intro env' H' F' M' a' w' x r' er' k
  exact ⟨env',H',F',M',x,r',er',k⟩
theorem runD_range {own st:List Nat} {ops:Array Oper} {K:Env->Heap->Prop}:∀ (l:List Oper) (k:Nat) (env:Env) (H:Heap),(∀ i,l[i]? =ops[k+i]?)->dq4 P w0 nt own st ops l env H K->runD P w0 nt own st ops (List.range' k l.length) env H K:=by
 intro l
 induction l with
 | nil=>intro k env H _ h;exact h
 | cons o l ih=>
  intro k env H hl h
  have h0:ops[k]? =some o:=by simpa using (hl 0).symm
  simp only [List.length_cons,List.range'_succ,runD,h0]
  exact cq2 h fun e h' k'=>ih (k+1) e h' (fun i=>by have:=hl (i+1);simpa [Nat.add_assoc,Nat.add_comm 1 i] using this) k'
theorem awp_draw (hm:P.follows .mixedOrders=true) (own st:List Nat) {id:Nat} {ops:Array Oper} {Q:Exit->Env->Heap->Prop} {env:Env} {H:Heap} (hok:fqh own st nt ops (List.range ops.size)=true)
  (h:dq4 P w0 nt own st ops ops.toList env H (Q .normal)):AWP P w0 nt (.region id ops true) Q env H:=by
 refine gqp hm own st _ hok ?_
 have:=runD_range ops.toList 0 env H (by simp) h
 rwa [List.range_eq_range',<-Array.length_toList]
end
end Go.Am
