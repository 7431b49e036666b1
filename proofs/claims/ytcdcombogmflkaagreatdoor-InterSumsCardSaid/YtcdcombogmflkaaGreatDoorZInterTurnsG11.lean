/- Contracts and plain laws that the law InterTurnsG needs, part 11. -/
import Derived.Test.YtcdcombogmflkaaGreatDoorZInterTurnsG10
namespace Go.Am
open Go
set_option linter.unusedVariables false
set_option linter.unusedSimpArgs false
section
variable {P:Program} {w0:World} {nt:Nat} {G:Heap}
def bq7 (P:Program) (w0:World) (nt:Nat) (own st:List Nat) (G:Heap) (o:Oper) (env:Env) (H:Heap) (K:Env->Heap->Prop):Prop:=
 if eqi own o then opC P (if inSt st o then G else H) (evO env) o.op (fun v=>putK nt o.dst v env (fun env'=>K env' H))
 else opX P w0 H (evO env) o (fun v H'=>Sub G H'/\putK nt o.dst v env (fun env'=>K env' H'))
def dqc (P:Program) (w0:World) (nt:Nat) (own st:List Nat) (G:Heap) (ops:Array Oper) (o:Oper) (env:Env) (H:Heap) (K:Env->Heap->Prop):Prop:=
 Sub G H/\gqr (cq0 ops o) env (fun env=>bq7 P w0 nt own st G o env H K) (fun env=>putK nt o.dst (.sc undef) env (fun env=>K env H))
def nqn (P:Program) (w0:World) (nt:Nat) (own st:List Nat) (G:Heap) (ops:Array Oper):List Oper->Env->Heap->(Env->Heap->Prop)->Prop
 | [],env,H,K=>K env H
 | o::rest,env,H,K=>gqr (cq0 ops o) env (fun env=>bq7 P w0 nt own st G o env H (fun env H=>nqn P w0 nt own st G ops rest env H K)) (fun env=>putK nt o.dst (.sc undef) env (fun env=>nqn P w0 nt own st G ops rest env H K))
theorem evalOpG_op {own st:List Nat} {o:Oper} {env:Env} {H:Heap} {K:Env->Heap->Prop} (s:Sub G H) (h:bq7 P w0 nt own st G o env H K):fqi P w0 nt own o env H K:=by
 unfold bq7 at h
 unfold fqi
 split at h
 ·rename_i hp
  rw [if_pos hp]
  split at h
  ·exact mqx s _ _ _ h
  ·exact h
 ·rename_i hp
  rw [if_neg hp]
  exact dq8 h fun v H' k=>k.2
theorem stepG_step {own st:List Nat} {ops:Array Oper} {o:Oper} {env:Env} {H:Heap} {K:Env->Heap->Prop} (h:dqc P w0 nt own st G ops o env H K):stepA P w0 nt own ops o env H K:=by
 obtain ⟨s,h⟩:=h
 unfold stepA
 rw [bqn] at h ⊢
 split at h
 ·rename_i e;rw [if_pos e];exact evalOpG_op s h
 ·rename_i e;rw [if_neg e];exact h
theorem evalOpG_mono {own st:List Nat} {o:Oper} {env:Env} {H:Heap} {K K':Env->Heap->Prop} (s:Sub G H) (h:bq7 P w0 nt own st G o env H K) (hk:∀ e H',Sub G H'->K e H'->K' e H'):bq7 P w0 nt own st G o env H K':=by
 unfold bq7 at h ⊢
 split at h
 ·rename_i hp;rw [if_pos hp]
  exact (iqw _ _ _).mono h fun v k=>bqr k fun e=>hk e H s
 ·rename_i hp;rw [if_neg hp]
  exact dq8 h fun v H' k=>⟨k.1,bqr k.2 fun e=>hk e H' k.1⟩
theorem jq7 {own st:List Nat} {ops:Array Oper} {o:Oper} {env:Env} {H:Heap} {K K':Env->Heap->Prop} (h:dqc P w0 nt own st G ops o env H K) (hk:∀ e H',Sub G H'->K e H'->K' e H'):dqc P w0 nt own st G ops o env H K':=by
 obtain ⟨s,h⟩:=h
 refine ⟨s,?_⟩
 rw [bqn] at h ⊢
 split at h
 ·rename_i e;rw [if_pos e];exact evalOpG_mono s h hk
 ·rename_i e;rw [if_neg e];exact bqr h fun e=>hk e H s
theorem eqp {own st:List Nat} {ops:Array Oper} {o:Oper} {env:Env} {H:Heap} {K K':Env->Heap->Prop} (h:dqc P w0 nt own st G ops o env H K) (hk:∀ e H',K e H'->K' e H'):dqc P w0 nt own st G ops o env H K':=
 jq7 h fun e H' _=>hk e H'
structure LeftG (own:List Nat) (G:Heap) (y:Oper) (env:Env) (H:Heap) (e:Env) (h:Heap):Prop where
 slot:∀ i,y.dst≠some i->e i=env i
 heap:eqi own y=true->h=H
 keep:Sub G h
theorem iqk {own st:List Nat} {ops:Array Oper} {y:Oper} {env:Env} {H:Heap} {K:Env->Heap->Prop} (h:dqc P w0 nt own st G ops y env H K):
  dqc P w0 nt own st G ops y env H (fun e h=>LeftG own G y env H e h/\K e h):=by
 obtain ⟨s,h⟩:=h
 refine ⟨s,?_⟩
 rw [bqn] at h ⊢
 split at h
 ·rename_i eg;rw [if_pos eg]
  unfold bq7 at h ⊢
  split at h
  ·rename_i hp;rw [if_pos hp]
   exact (iqw _ _ _).mono h fun v k=>bqr (dqf k) fun e ⟨a,b⟩=>⟨⟨a,fun _=>rfl,s⟩,b⟩
  ·rename_i hp;rw [if_neg hp]
   exact dq8 h fun v H' k=>⟨k.1,bqr (dqf k.2) fun e ⟨a,b⟩=>⟨⟨a,fun h0=>absurd h0 hp,k.1⟩,b⟩⟩
 ·rename_i eg;rw [if_neg eg]
  exact bqr (dqf h) fun e ⟨a,b⟩=>⟨⟨a,fun _=>rfl,s⟩,b⟩
theorem jq8 {own st:List Nat} {ops:Array Oper} {y:Oper} {env:Env} {H:Heap} {K:Env->Heap->Prop} {d:Nat} {v:AV} (h1:d∉y.looksAt ops) (h2:y.dst≠some d):
  dqc P w0 nt own st G ops y (upd env d v) H K↔dqc P w0 nt own st G ops y env H (fun e h=>K (upd e d v) h):=by
 have hl:∀ i,i∈y.looksAt ops->(upd env d v) i=env i:=fun i hi=>aqm _ _ _ (fun e=>h1 (e▸hi))
 have hop:=iqu hl
 have hput:∀ (u:AV) (L:Env->Prop),putK nt y.dst u (upd env d v) L↔putK nt y.dst u env (fun e=>L (upd e d v)):=by
  intro u L
  cases hd:y.dst with
  | none=>exact Iff.rfl
  | some d'=>
   have hne:d≠d':=fun e=>h2 (by rw [hd,e])
   simp only [putK]
   rw [aq9 env v u hne]
 unfold dqc
 refine and_congr_right fun _=> ?_
 rw [bqn,bqn,fq1 hl]
 split
 ·unfold bq7
  split
  ·rw [hq1 _ _ hop]
   simp only [hput]
  ·simp only [hput]
   exact ⟨hqz hop,hqz (fun x hx=>(hop x hx).symm)⟩
 ·exact hput _ _
theorem stepG_det {own st:List Nat} {ops:Array Oper} {x:Oper} (hp:eqi own x=true) {env:Env} {H:Heap} {K:Env->Heap->Prop} (h:dqc P w0 nt own st G ops x env H K):
  ∃ v,putK nt x.dst v env (fun e=>K e H)/\∀ (e:Env) (H':Heap) (K':Env->Heap->Prop),(∀ i,i∈x.looksAt ops->e i=env i)->Sub G H'->(H'=H\/heapy x.op=false\/inSt st x=true)->
   putK nt x.dst v e (fun e=>K' e H')->dqc P w0 nt own st G ops x e H' K':=by
 obtain ⟨s,h⟩:=h
 rw [bqn] at h
 split at h
 ·rename_i eg
  unfold bq7 at h
  rw [if_pos hp] at h
  obtain ⟨v,hv⟩:=iqw (P:=P) _ _ _ _ h
  refine ⟨v,(hv _).1 h,fun e H' K' he s' hH hput=>⟨s',?_⟩⟩
  rw [bqn,fq1 he,if_pos eg]
  unfold bq7
  rw [if_pos hp,hq1 _ _ (iqu he)]
  have h0:=(hv (fun v=>putK nt x.dst v e (fun e=>K' e H'))).2 hput
  rcases hH with rfl | hf | hs
  ·exact h0
  ·by_cases hs:inSt st x=true
   ·rw [if_pos hs] at h0 ⊢;exact h0
   ·rw [if_neg hs] at h0 ⊢;exact opC_free _ _ hf _ h0
  ·rw [if_pos hs] at h0 ⊢;exact h0
 ·rename_i eg
  refine ⟨.sc undef,h,fun e H' K' he s' hH hput=>⟨s',?_⟩⟩
  rw [bqn,fq1 he,if_neg eg]
  exact hput
def okAlloc (nt:Nat) (x y:Oper):Bool:=
 match x.op,y.op with
 | .alloc t,.alloc t'=>t==t'&&x.guard.isNone&&y.guard.isNone&&(match x.dst with | some d=>decide (d<nt) | none=>false)&&(match y.dst with | some d=>decide (d<nt) | none=>false)
 | _,_=>false
def iqo (own st:List Nat) (nt:Nat) (ops:Array Oper) (x y:Oper):Bool:=
 (x.apart ops y&&okAlloc nt x y)||x.apart ops y&&((eqi own x&&(eqi own y || !heapy x.op||inSt st x)) ||
  (match y.op with
   | .move _ | .assign _=>eqi own y&&(match y.dst with | some d=>decide (d<nt) | none=>true)
   | _=>false))
theorem swap_alloc {own st:List Nat} {ops:Array Oper} {x y:Oper} (hap:x.apart ops y=true) (h:okAlloc nt x y=true) {env:Env} {H:Heap} {K:Env->Heap->Prop}
  (hs:dqc P w0 nt own st G ops x env H (fun e h=>dqc P w0 nt own st G ops y e h K)):dqc P w0 nt own st G ops y env H (fun e h=>dqc P w0 nt own st G ops x e h K):=by
 obtain ⟨a1,a2,a3⟩:=iq2 hap
 obtain ⟨xd,xop,xt,xp,xa,xg⟩:=x
 obtain ⟨yd,yop,yt,yp,ya,yg⟩:=y
 unfold okAlloc at h
 simp only at h
 split at h
 ·rename_i _ _ t t'
  simp only [Bool.and_eq_true,beq_iff_eq,Option.isNone_iff_eq_none] at h
  obtain ⟨⟨⟨⟨rfl,rfl⟩,rfl⟩,hd1⟩,hd2⟩:=h
  cases xd with
  | none=>simp at hd1
  | some d1=>
  cases yd with
  | none=>simp at hd2
  | some d2=>
  simp only [decide_eq_true_eq] at hd1 hd2
  have hne:d1≠d2:=fun e=>a2 d1 rfl (by rw [e])
  obtain ⟨s,hs⟩:=hs
  simp only [gqr,cq0,bq7,eqi,Bool.false_eq_true,if_false,opX,gqq,putK] at hs
  refine ⟨s,?_⟩
  simp only [gqr,cq0,bq7,eqi,Bool.false_eq_true,if_false,opX,gqq,putK]
  cases hz:zer P t with
  | none=>rw [hz] at hs;exact hs.elim
  | some zs=>
   rw [hz] at hs
   simp only at hs ⊢
   refine ⟨hs.1,fun r2 hr2=>⟨s.upd (fqb s hr2) _,hd2,s.upd (fqb s hr2) _,?_⟩⟩
   simp only [gqr,cq0,bq7,eqi,Bool.false_eq_true,if_false,opX,gqq,putK,hz]
   refine ⟨hs.1,fun r1 hr1=> ?_⟩
   have hrr:r1≠r2:=by rintro rfl;rw [aqj] at hr1;cases hr1
   rw [aqm _ _ _ hrr] at hr1
   obtain ⟨s1,_,s2,k⟩:=hs.2 r1 hr1
   simp only [gqr,cq0,bq7,eqi,Bool.false_eq_true,if_false,opX,gqq,putK,hz] at k
   obtain ⟨s3,_,k2⟩:=k.2 r2 (by rw [aqm _ _ _ (Ne.symm hrr)];exact hr2)
   rw [aq9 _ _ _ (Ne.symm hrr),aq9 _ _ _ (Ne.symm hne)]
   exact ⟨s3,hd1,k2⟩
 ·cases h
theorem swap_okG {own st:List Nat} {ops:Array Oper} {x y:Oper} (h:iqo own st nt ops x y=true) {env:Env} {H:Heap} {K:Env->Heap->Prop}
  (hs:dqc P w0 nt own st G ops x env H (fun e h=>dqc P w0 nt own st G ops y e h K)):dqc P w0 nt own st G ops y env H (fun e h=>dqc P w0 nt own st G ops x e h K):=by
 unfold iqo at h
 rw [Bool.or_eq_true] at h
 rcases h with h | h
 ·rw [Bool.and_eq_true] at h;exact swap_alloc h.1 h.2 hs
 rw [Bool.and_eq_true,Bool.or_eq_true] at h
 obtain ⟨hap,hor⟩:=h
 obtain ⟨a1,a2,a3⟩:=iq2 hap
 rcases hor with hor | hor
 ·-- x reckons on slots
  rw [Bool.and_eq_true] at hor
  obtain ⟨hp,hor⟩:=hor
  obtain ⟨v,hput,hdet⟩:=stepG_det hp hs
  have fin:∀ e h,LeftG own G y env H e h->putK nt x.dst v e (fun e=>K e h)->dqc P w0 nt own st G ops x e h K:=by
   intro e h hl hpk
   refine hdet e h K (fun i hi=>hl.slot i (fun e0=>a3 i e0 hi)) hl.keep ?_ hpk
   simp only [Bool.or_eq_true,Bool.not_eq_true'] at hor
   rcases hor with (hy | hf) | h1
   ·exact .inl (hl.heap hy)
   ·exact .inr (.inl hf)
   ·exact .inr (.inr h1)
  cases hd:x.dst with
  | none=>
   rw [hd] at hput
   simp only [putK] at hput
   refine eqp (iqk hput) fun e h ⟨hl,k⟩=>fin e h hl ?_
   rw [hd];exact k
  | some d=>
   rw [hd] at hput
   obtain ⟨hlt,hput⟩:=hput
   rw [jq8 (a1 d hd) (a2 d hd)] at hput
   refine eqp (iqk hput) fun e h ⟨hl,k⟩=>fin e h hl ?_
   rw [hd];exact ⟨hlt,k⟩
 ·-- y is a move
  have hmv:∃ z,(y.op= .move z\/y.op= .assign z)/\eqi own y=true/\∀ d,y.dst=some d->d<nt:=by
   split at hor
   ·rename_i z e
    rw [Bool.and_eq_true] at hor
    exact ⟨z,.inl e,hor.1,fun d hd=>by have:=hor.2;rw [hd] at this;simpa using this⟩
   ·rename_i z e
    rw [Bool.and_eq_true] at hor
    exact ⟨z,.inr e,hor.1,fun d hd=>by have:=hor.2;rw [hd] at this;simpa using this⟩
   ·cases hor
  obtain ⟨z,hyop,hyp,hlt⟩:=hmv
  obtain ⟨v,hv⟩:∃ v,∀ (e:Env) (H':Heap) (K':Env->Heap->Prop),Sub G H'->(∀ i,i∈y.looksAt ops->e i=env i)->(dqc P w0 nt own st G ops y e H' K'↔putK nt y.dst v e (fun e=>K' e H')):=by
   refine ⟨if gOK (cq0 ops y) env then evO env z else .sc undef,fun e H' K' s' he=> ?_⟩
   unfold dqc
   rw [and_iff_right s',bqn,fq1 he]
   split
   ·unfold bq7
    rw [if_pos hyp]
    have hop:z∈y.op.operands:=by rcases hyop with e0 | e0<;>simp [e0,Op.operands]
    have hz:=iqu he z hop
    rcases hyop with e0 | e0<;>simp only [e0,opC,hz]
   ·exact Iff.rfl
  have h1:dqc P w0 nt own st G ops x env H (fun e h=>putK nt y.dst v e (fun e=>K e h)):=by
   refine eqp (iqk hs) fun e h ⟨hl,k⟩=> ?_
   exact (hv e h K hl.keep (fun i hi=>hl.slot i (fun e0=>a1 i e0 hi))).1 k
  rw [hv env H _ hs.1 (fun _ _=>rfl)]
  cases hd:y.dst with
  | none=>rw [hd] at h1;exact h1
  | some d=>
   rw [hd] at h1
   have h2:d∉x.looksAt ops:=a3 d hd
   have h3:x.dst≠some d:=fun e0=>a2 d e0 hd
   exact ⟨hlt d hd,(jq8 h2 h3).2 (eqp h1 fun e h k=>k.2)⟩
def eqj (own st:List Nat) (nt:Nat) (ops:Array Oper) (ms:List Nat):List Nat->Bool
 | []=>true
 | x::L=>(L.all fun y=>(ms.getD y 0).testBit x||(match ops[x]?,ops[y]? with
   | some ox,some oy=>iqo own st nt ops ox oy
   | _,_=>false))&&eqj own st nt ops ms L
def mqy (own st:List Nat) (nt:Nat) (ops:Array Oper) (L:List Nat):Bool:=
 eqj own st nt ops (dq5 ops.toList []) L&&(ops.toList.zipIdx.all fun p=>p.1.after.toList.all fun e=> !Region.binds .any e||decide (e.on<p.2))&&
 (List.range ops.size).all (fun i=>L.contains i)&&L.all (fun i=>decide (i<ops.size))&&decide (L.length=ops.size)
def runG (P:Program) (w0:World) (nt:Nat) (own st:List Nat) (G:Heap) (ops:Array Oper):List Nat->Env->Heap->(Env->Heap->Prop)->Prop
 | [],env,H,K=>K env H
 | i::L,env,H,K=>match ops[i]? with
  | some o=>dqc P w0 nt own st G ops o env H (fun env H=>runG P w0 nt own st G ops L env H K)
  | none=>runG P w0 nt own st G ops L env H K
theorem runG_front {own st:List Nat} {ops:Array Oper} {y:Nat} {oy:Oper} (hy:ops[y]? =some oy):∀ (A B:List Nat) {env:Env} {H:Heap} {K:Env->Heap->Prop},
  (∀ x∈A,∃ ox,ops[x]? =some ox/\iqo own st nt ops ox oy=true)->runG P w0 nt own st G ops (A++y::B) env H K->runG P w0 nt own st G ops (y::(A++B)) env H K:=by
 intro A
 induction A with
 | nil=>intro B env H K _ h;exact h
 | cons x A ih=>
  intro B env H K hA h
  obtain ⟨ox,hx,hok⟩:=hA x (by simp)
  simp only [List.cons_append,runG,hx,hy] at h ⊢
  have h1:=eqp h fun e h' k=>ih B (fun z hz=>hA z (by simp [hz])) k
  simp only [runG,hy] at h1
  exact swap_okG hok h1
theorem runG_any {own st:List Nat} {ops:Array Oper} (hedge:∀ (i:Nat) (o:Oper),ops[i]? =some o->∀ e∈o.after,Region.binds .any e=true->e.on<i):
  ∀ (fuel:Nat) (L:List Nat) (listed:Array Bool) (env:Env) (H:Heap) (K:Env->Heap->Prop),eqj own st nt ops (dq5 ops.toList []) L=true->L.Nodup->listed.size=ops.size->
  (∀ i,i<ops.size->(i∈L↔listed.getD i true=false))->(∀ i∈L,i<ops.size)->
  (∀ (i:Nat) (o:Oper),ops[i]? =some o->listed.getD i false=true->∀ e∈o.after,Region.binds .any e=true->listed.getD e.on false=true)->L.length<=fuel->
  runG P w0 nt own st G ops L env H K->∀ w F M a,Rel w0 w F M H->EnvR F M nt env a->∀ Q:Exit->Act->World->Prop,
   (∀ env' H' F' M' a' w',Ext F F' M M'->Rel w0 w' F' M' H'->EnvR F' M' nt env' a'->K env' H'->Q .normal a' w')->wpAny P .any ops Q fuel listed a w:=by
 intro fuel
 induction fuel with
 | zero=>
  intro L listed env H K _ _ hsz hL hLt _ hfuel h w F M a r er Q hn
  have:L=[]:=List.eq_nil_of_length_eq_zero (by omega)
  subst this
  refine ⟨?_,hn env H F M a w (Ext.refl _ _) r er h⟩
  rw [List.eq_nil_iff_forall_not_mem]
  intro i hi
  rw [mem_ready] at hi
  obtain ⟨h0,o,ho,_⟩:=hi
  have:=(hL i (Array.getElem?_eq_some_iff.1 ho).1).2 h0
  cases this
 | succ fuel ih=>
  intro L listed env H K hok hnd hsz hL hLt hcl hfuel h w F M a r er Q hn
  refine ⟨fun hr=> ?_,fun y hy=> ?_⟩
  ·-- nobody is ready:nobody is left
   have:L=[]:=by
    cases hLL:L with
    | nil=>rfl
    | cons x0 L0=>
     exfalso
     have hex:∃ i,i∈L/\∀ j∈L,i<=j:=by
      have:∀ (l:List Nat),l≠[]->∃ i,i∈l/\∀ j∈l,i<=j:=by
       intro l
       induction l with
       | nil=>intro h;exact absurd rfl h
       | cons a l ihl=>
        intro _
        cases l with
        | nil=>exact ⟨a,by simp,fun j hj=>by simp at hj;omega⟩
        | cons b l=>
         obtain ⟨i,hi,hmin⟩:=ihl (by simp)
         by_cases hab:a<=i
         ·exact ⟨a,by simp,fun j hj=>by
           rcases List.mem_cons.1 hj with rfl | hj
           ·exact Nat.le_refl _
           ·exact Nat.le_trans hab (hmin j hj)⟩
         ·exact ⟨i,by simp at hi ⊢;exact .inr hi,fun j hj=>by
           rcases List.mem_cons.1 hj with rfl | hj
           ·omega
           ·exact hmin j hj⟩
      exact this L (by rw [hLL];simp)
     obtain ⟨i,hi,hmin⟩:=hex
     have hlt:=hLt i hi
     have hi0:=(hL i hlt).1 hi
     have hmem:i∈Region.ready .any ops listed:=by
      rw [mem_ready]
      refine ⟨hi0,ops[i],by simp [hlt],fun e he hbe=> ?_⟩
      have he':=hedge i ops[i] (by simp [hlt]) e he hbe
      have hnot:e.on∉L:=fun hm=>by have:=hmin _ hm;omega
      have hlt':e.on<listed.size:=by omega
      have:=mt (hL e.on (by omega)).2 hnot
      simp [Array.getD_eq_getD_getElem?,hlt'] at this ⊢
      exact this
     rw [hr] at hmem;cases hmem
   subst this
   exact hn env H F M a w (Ext.refl _ _) r er h
  ·have hy':=mem_ready.1 hy
   obtain ⟨hy0,oy,hoy,hpre⟩:=hy'
   have hylt:=(Array.getElem?_eq_some_iff.1 hoy).1
   have hyL:=(hL y hylt).2 hy0
   obtain ⟨A,B,rfl⟩:=List.append_of_mem hyL
   have hA:∀ x∈A,∃ ox,ops[x]? =some ox/\iqo own st nt ops ox oy=true:=by
    intro x hx
    have hpair:∀ (A:List Nat),eqj own st nt ops (dq5 ops.toList []) (A++y::B)=true->x∈A->((dq5 ops.toList []).getD y 0).testBit x=true\/(match ops[x]?,ops[y]? with
      | some ox,some oy=>iqo own st nt ops ox oy
      | _,_=>false)=true:=by
     intro A
     induction A with
     | nil=>intro _ h;cases h
     | cons z A ihA=>
      intro h hx
      simp only [List.cons_append,eqj,Bool.and_eq_true,List.all_eq_true] at h
      rcases List.mem_cons.1 hx with rfl | hx
      ·have:=h.1 y (by simp)
       rwa [Bool.or_eq_true] at this
      ·exact ihA h.2 hx
    rcases hpair A hok hx with hm | hm
    ·exfalso
     have hd:=lqt (fun j=>listed.getD j false=true) ops.toList [] (by simp) (fun i o hi hd e he hb=>hcl i o (by simpa using hi) (by simpa using hd) e he hb) (fun i o hi e he hbe=>by simpa using hedge i o (by simpa using hi) e he hbe) y oy (by simpa using hoy)
      (fun e he hb=>hpre e he hb) x (by simpa using hm)
     have hxlt:=hLt x (by simp [hx])
     have hx0:=(hL x hxlt).1 (by simp [hx])
     have hxl:x<listed.size:=by omega
     simp [Array.getD_eq_getD_getElem?,hxl] at hd hx0
     rw [hd] at hx0;cases hx0
    ·rw [hoy] at hm
     cases hox:ops[x]? with
     | none=>rw [hox] at hm;cases hm
     | some ox=>rw [hox] at hm;exact ⟨ox,rfl,hm⟩
   have hf:=runG_front hoy A B hA h
   simp only [runG,hoy] at hf
   have hndAB:(A++B).Nodup/\y∉A++B:=by
    rw [List.nodup_append] at hnd
    obtain ⟨n1,n2,n3⟩:=hnd
    rw [List.nodup_cons] at n2
    refine ⟨List.nodup_append.2 ⟨n1,n2.2,fun a ha b hb=>n3 a ha b (by simp [hb])⟩,?_⟩
    rw [List.mem_append]
    rintro (hm | hm)
    ·exact n3 y hm y (by simp) rfl
    ·exact n2.1 hm
   have hokAB:∀ (A:List Nat),eqj own st nt ops (dq5 ops.toList []) (A++y::B)=true->eqj own st nt ops (dq5 ops.toList []) (A++B)=true:=by
    intro A
    induction A with
    | nil=>intro h;simp only [List.nil_append,eqj,Bool.and_eq_true] at h;exact h.2
    | cons z A ihA=>
     intro h
     simp only [List.cons_append,eqj,Bool.and_eq_true,List.all_eq_true] at h ⊢
     exact ⟨fun q hq=>h.1 q (by
      rw [List.mem_append] at hq ⊢
      rcases hq with hq | hq
      ·exact .inl hq
      ·exact .inr (by simp [hq])),ihA h.2⟩
   have hylisted:y<listed.size:=by omega
   have st':=mqp (Q:=Q) (next:=wpAny P .any ops Q fuel (listed.setIfInBounds y true)) (stepG_step hf) r er (fun env' H' F' M' a' w' x r' er' k=>
    ih (A++B) (listed.setIfInBounds y true) env' H' K (hokAB A hok) hndAB.1 (by simp [hsz])
     (fun i hi=>by
      have hiL:=hL i hi
      have hil:i<listed.size:=by omega
      by_cases e:i=y
      ·subst e
       simp [Array.getD_eq_getD_getElem?,hil]
       have:=hndAB.2;rw [List.mem_append] at this;exact not_or.1 this
      ·have hne:¬y=i:=fun e0=>e e0.symm
       rw [getD_set_ne true hne,<-hiL]
       simp [e])
     (fun i hi=>hLt i (by
      rw [List.mem_append] at hi ⊢
      rcases hi with hi | hi
      ·exact .inl hi
      ·exact .inr (by simp [hi])))
     (fun i o ho hd e he hb=>by
      by_cases e0:i=y
      ·subst e0
       rw [hoy] at ho;cases ho
       exact getD_set_true (hpre e he hb)
      ·have hne:¬y=i:=fun e1=>e0 e1.symm
       rw [getD_set_ne false hne] at hd
       exact getD_set_true (hcl i o ho hd e he hb))
     (by simp at hfuel ⊢;omega) k w' F' M' a' r' er' Q (fun env'' H'' F'' M'' a'' w'' x' r'' er'' k'=>hn env'' H'' F'' M'' a'' w'' (x.trans x') r'' er'' k'))
   unfold wpOp
   simp only [hoy]
   split
   ·rename_i hw;rw [if_pos hw] at st';exact .inl st'
   ·rename_i hw;rw [if_neg hw] at st';exact st'
theorem okDraw_specG {own st:List Nat} {ops:Array Oper} {L:List Nat} (h:mqy own st nt ops L=true):
  eqj own st nt ops (dq5 ops.toList []) L=true/\(∀ (i:Nat) (o:Oper),ops[i]? =some o->∀ e∈o.after,Region.binds .any e=true->e.on<i)/\(∀ i,i<ops.size->i∈L)/\(∀ i∈L,i<ops.size)/\L.length=ops.size:=by
 unfold mqy at h
 simp only [Bool.and_eq_true,List.all_eq_true,decide_eq_true_eq,List.mem_range,List.contains_eq_mem] at h
 obtain ⟨⟨⟨⟨h1,h2⟩,h3⟩,h4⟩,h5⟩:=h
 refine ⟨h1,fun i o ho e he hbe=> ?_,h3,h4,h5⟩
 have hm:(o,i)∈ops.toList.zipIdx:=by
  rw [List.mem_zipIdx_iff_getElem?]
  simpa using ho
 have:=h2 (o,i) hm e (by simpa using he)
 rw [hbe] at this
 simpa using this
theorem kqx (hm:P.follows .mixedOrders=true) (own st L:List Nat) {id:Nat} {ops:Array Oper} {Q:Exit->Env->Heap->Prop} {env:Env} {H:Heap} (hok:mqy own st nt ops L=true)
  (h:runG P w0 nt own st G ops L env H (Q .normal)):AWP P w0 nt (.region id ops true) Q env H:=by
 intro w F M a r er
 obtain ⟨h1,h2,h3,h4,h5⟩:=okDraw_specG hok
 refine wp_region_any hm (runG_any h2 ops.size L _ env H (Q .normal) h1 (hq3 _ _ h3 h5) (by simp) ?_ h4 ?_ (by omega) h _ F M a r.drew er _ ?_)
 ·intro i hi
  simp [hi,h3 i hi]
 ·intro i o _ hd
  exfalso
  by_cases hlt:i<ops.size
  ·simp [hlt] at hd
  ·simp [hlt] at hd
 ·intro env' H' F' M' a' w' x r' er' k
  exact ⟨env',H',F',M',x,r',er',k⟩
theorem evalG_run {own st:List Nat} {ops:Array Oper}:∀ (L:List Nat) {env:Env} {H:Heap} {K:Env->Heap->Prop},Sub G H->nqn P w0 nt own st G ops (L.filterMap fun i=>ops[i]?) env H K->runG P w0 nt own st G ops L env H K:=by
 intro L
 induction L with
 | nil=>intro env H K _ h;exact h
 | cons i L ih=>
  intro env H K s h
  rw [List.filterMap_cons] at h
  rw [runG]
  cases e:ops[i]? with
  | none=>rw [e] at h;exact ih s h
  | some o=>
   rw [e] at h
   have h':dqc P w0 nt own st G ops o env H (fun env H=>nqn P w0 nt own st G ops (L.filterMap fun i=>ops[i]?) env H K):=⟨s,h⟩
   exact jq7 h' fun _ _ s' k=>ih s' k
theorem iqj (hm:P.follows .mixedOrders=true) (G:Heap) (own st L:List Nat) {id:Nat} {l:List Oper} {y:Code} {Q:Exit->Env->Heap->Prop} {env:Env} {H:Heap} (s:Sub G H) (hok:mqy own st nt l.toArray L=true)
  (h:∀ K:Env->Heap->Prop,(∀ e h,AWP P w0 nt y Q e h->K e h)->nqn P w0 nt own st G l.toArray (L.filterMap fun i=>l[i]?) env H K):AWP P w0 nt (.seq (.region id l.toArray true) y) Q env H:=
 have h1:nqn P w0 nt own st G l.toArray (L.filterMap fun i=>l.toArray[i]?) env H (AWP P w0 nt y Q):=by simpa using h _ fun _ _ h=>h
 iqy (kqx hm own st L hok (evalG_run L s h1))
section
variable {own st:List Nat} {ops:Array Oper} {rest:List Oper} {dst:Option Tmp} {op:Op} {t:TypeId} {pos:String} {after:Array Edge} {env:Env} {H:Heap} {K:Env->Heap->Prop}
theorem eg_nil (h:K env H):nqn P w0 nt own st G ops [] env H K:=h
theorem nqp (h : ∀ K' : Env → Heap → Prop, (∀ e h, nqn P w0 nt own st G ops rest e h K → K' e h) → bq7 P w0 nt own st G ⟨dst, op, t, "", #[], none⟩ env H K') :
  nqn P w0 nt own st G ops (⟨dst,op,t,pos,after,none⟩::rest) env H K:=h _ fun _ _ h=>h
end
end
attribute [simp] bq7
end Go.Am
namespace Go.Am
open Go
set_option linter.unusedVariables false
section
variable {P:Program} {w0:World} {nt:Nat}
theorem ok_call_raw {o:Oper} {env:Env} {H:Heap} {K:Env->Heap->Prop} {f:Operand} {args:Array Operand} {ts:Array TypeId} (ho:o.op= .call { callee:= .value f,args:=args,argTypes:=ts })
  (h:callK P w0 H (evO env f) (args.toList.map fun x=>evO env x) (fun v H'=>putK nt o.dst v env (fun env'=>K env' H'))):OpOK P w0 nt o env H K:=by
 intro w F M a r er next Q hn
 have hf:=er.ev f
 revert h hf
 generalize evO env f=fv
 intro h hf
 unfold callK at h
 split at h<;>try exact h.elim
 rename_i fid first caps
 obtain ⟨hcb,h⟩:=h
 generalize hcf:a.eval f=cf at hf
 cases hf with
 | clo ff gg hs ht h1 h2 h3 h4=>
  rename_i cs ds
  have hvl:VRL F M (first++(args.toList.map fun x=>evO env x)++caps) (cs++args.map a.eval++ds).toList:=by
   simp only [Array.toList_append,Array.toList_map]
   refine (VRL.append (VRL.append (VRL.of hs h1 h2) (VRL.map _ fun x _=>(er.ev x))) (VRL.of ht h3 h4))
  have hcalls:=h w F M (cs++args.map a.eval++ds) r hvl
  have hrun:(execOp a.eval o).run P w= .ok (.enter fid (cs++args.map a.eval++ds)) w:=by
   unfold dqq at hcb
   cases hfn:P.funcs[fid]? with
   | none=>rw [hfn] at hcb;cases hcb
   | some fn=>
    rw [hfn] at hcb
    simp only [Bool.and_eq_true,bne_iff_ne,ne_eq] at hcb
    obtain ⟨hnm,hbody⟩:=hcb
    obtain ⟨c,hc⟩:=Option.isSome_iff_exists.1 hbody
    simp [execOp,ho,resolve,Deferred.ofValue,hcf,invoke,callFunc,hfn,hnm,hc]
  unfold Oper.wp
  rw [hrun,Oper.upon_enter]
  refine hcalls.mono ?_
  rintro e w' ⟨v,cv,H',F',M',rfl,x,r',hv,k⟩
  obtain ⟨env',er',k'⟩:=kqc (er.mono x) hv k
  exact hn env' H' F' M' _ _ x r' er' k'
theorem kq6 {o:Oper} {env:Env} {H:Heap} {K:Env->Heap->Prop} {s x:Operand} {t1 t2:TypeId} (ho:o.op= .call { callee:= .builtin .append,args:= #[s,x],argTypes:= #[t1,t2] })
  {e e2:TypeId} (h1:slE P t1=some e) (h2:slE P t2=some e2) (hz:0<sz P e) (hs:evO env s= .sl [] 0) (hx:evO env x= .sl [] 0)
  (k:putK nt o.dst (.sl [] 0) env (fun env'=>K env' H)):OpOK P w0 nt o env H K:=by
 refine bq6 ?_
 intro w F M a r er
 have hvs:=er.ev s
 have hvx:=er.ev x
 rw [hs] at hvs
 rw [hx] at hvx
 obtain ⟨b,c,hcs,hnc,_⟩:=kqa (P:=P) (es:=sz P e) r hvs (m:=0) (cells:=[]) rfl (by simp [dqy])
 obtain ⟨b2,c2,hcx,hnc2,news,hvn,h1n,hln,hnews,_⟩:=kqa (P:=P) (es:=sz P e) r hvx (m:=0) (cells:=[]) rfl (by simp [dqy])
 have hnews0:news=[]:=List.eq_nil_of_length_eq_zero (by rw [<-hvn.1];rfl)
 subst hnews0
 have hrun:=cqv (P:=P) (ty:=o.type) (t1:=t1) (t2:=t2) (dq7 h1) (dq7 h2) hz (w:=w) (b:=b) (n:=0) (c:=c) rfl (by simpa using hnews) hnc
 rw [hcs] at hvs
 exact ⟨_,w,.sl [] 0,H,F,M,by simp [execOp,ho,resolve,invoke,builtin,hcs,hcx,hrun],Ext.refl _ _,r,hvs,k⟩
theorem nqw (id:Nat) {l:Array Oper} {d:Bool} {y z:Code} {Q:Exit->Env->Heap->Prop} {env:Env} {H:Heap} (h:AWP P w0 nt (.seq (.seq (.region id l d) y) z) Q env H):AWP P w0 nt (.seq (.seq (.region id l d) y) z) Q env H:=h
def OpsH (P:Program) (w0:World) (nt:Nat):List Oper->Env->Heap->(Env->Heap->Prop)->Prop
 | [],env,H,K=>K env H
 | o::rest,env,H,K=>o.guard=none/\OpOK P w0 nt o env H (fun env H=>OpsH P w0 nt rest env H K)
theorem OpsH.ok {ops:Array Oper}:∀ (l:List Oper) (env:Env) (H:Heap) (K:Env->Heap->Prop),OpsH P w0 nt l env H K->
  ∀ w F M a,Rel w0 w F M H->EnvR F M nt env a->∀ Q:Exit->Act->World->Prop,
   (∀ env' H' F' M' a' w',Ext F F' M M'->Rel w0 w' F' M' H'->EnvR F' M' nt env' a'->K env' H'->Q .normal a' w')->wpList P ops Q l a w:=by
 intro l
 induction l with
 | nil=>intro env H K h w F M a r er Q hn;exact hn env H F M a w (Ext.refl _ _) r er h
 | cons o rest ih=>
  intro env H K h w F M a r er Q hn
  have st:=h.2 w F M a r er (wpList P ops Q rest) Q (fun env' H' F' M' a' w' x r' er' k=>
   ih env' H' K k w' F' M' a' r' er' Q (fun env'' H'' F'' M'' a'' w'' x' r'' er'' k'=>hn env'' H'' F'' M'' a'' w'' (x.trans x') r'' er'' k'))
  unfold wpList
  have hw:Region.wanted o (yielded ops a.tmps)=true:=by unfold Region.wanted;rw [h.1]
  rw [if_pos hw]
  exact .inl st
theorem awp_hand1 {id:Nat} {l:List Oper} {Q:Exit->Env->Heap->Prop} {env:Env} {H:Heap}
  (h:OpsH P w0 nt l env H (fun e h=>Q .normal e h)):AWP P w0 nt (.region id l.toArray false) Q env H:=by
 intro w F M a r er
 refine wp_region_list (OpsH.ok _ _ _ _ h w F M a r er _ ?_)
 intro env' H' F' M' a' w' x r' er' k
 exact ⟨env',H',F',M',x,r',er',k⟩
theorem gqe (own:List Nat) {o:Oper} {rest:List Oper} {env:Env} {H:Heap} {K:Env->Heap->Prop} (hg:o.guard=none) (h:fqi P w0 nt own o env H (fun env H=>OpsH P w0 nt rest env H K)):OpsH P w0 nt (o::rest) env H K:=
 ⟨hg,evalOp_ok h⟩
end
end Go.Am
namespace Go.Am
open Go Go.Proofs
set_option linter.unusedVariables false
set_option linter.unusedSimpArgs false
variable {w0:World}
attribute [local irreducible] AWP aqo
attribute [local congr] aqp
theorem gqd {H:Heap} {r u:Nat} {k:Blk} (h:(if r=u then some k else H r)=none):r≠u/\H r=none:=by
 split at h
 ·cases h
 ·exact ⟨by assumption,h⟩
theorem ite_free2 {H:Heap} {r a b:Nat} {k k':Blk} (h:(if r=a then some k else if r=b then some k' else H r)=none):r≠a/\r≠b/\H r=none:=by
 split at h
 ·cases h
 ·split at h
  ·cases h
  ·exact ⟨by assumption,by assumption,h⟩
def hbG (H:Heap) (rf rt:Nat) (F T:List Int):Heap:=upd (upd H rf (some (.arr 1 3 (F.map I) F.length))) rt (some (.arr 1 3 (T.map I) T.length))
section
variable {H:Heap} {rf rt:Nat} {F T F' T':List Int}
theorem hbG_f (h:rt≠rf):upd (hbG H rf rt F T) rf (some (.arr 1 3 (F'.map I) F'.length))=hbG H rf rt F' T:=by
 rw [hbG,hbG,aq9 _ _ _ h,aqx]
theorem hbG_t:upd (hbG H rf rt F T) rt (some (.arr 1 3 (T'.map I) T'.length))=hbG H rf rt F T':=by rw [hbG,hbG,aqx]
theorem hbG_rf (h:rt≠rf):hbG H rf rt F T rf=some (.arr 1 3 (F.map I) F.length):=by rw [hbG,aqm _ _ _ (Ne.symm h),aqj]
theorem hbG_rt:hbG H rf rt F T rt=some (.arr 1 3 (T.map I) T.length):=by rw [hbG,aqj]
theorem hbG_old (h1:H rf=none) (h2:H rt=none) {x:Nat} {k:Blk} (h:H x=some k):hbG H rf rt F T x=some k:=by
 rw [hbG,aqm _ _ _ (Ne.symm (iqp h2 h)),aqm _ _ _ (Ne.symm (iqp h1 h)),h]
end
set_option maxRecDepth 20000 in
set_option maxHeartbeats 4000000 in
theorem mqk {x y:Mtd} {S:FS} (C:Com x y S):Ret Tryz.prog w0 21 [mtA x,mtA y,ints S.l] (.tup [rows (adjS x y S),ints (bqj x S),ints (bqj y S),I 0]):=by
 have hn:=C.n64
 have hS':=C.sub'
 have hlen:S.l.length<=64:=by have:=bqt C.sub;omega
 have c1:=MayS_ret (w0:=w0) C.oa C.ob (s:=S.l) (by omega)
 rw [C.may] at c1
 obtain ⟨f,hf⟩:∃ f:Int->Int->Bool,f=fun z u=>decide (Rk.Ind (rkM x) (insert z (S.erase u))):=⟨_,rfl⟩
 obtain ⟨g,hg0⟩:∃ g:Int->Int->Bool,g=fun z u=>decide (Rk.Ind (rkM y) (insert z (S.erase u))):=⟨_,rfl⟩
 obtain ⟨e1,he1⟩:∃ e1:Int->Bool,e1=fun z=>decide (Rk.Ind (rkM x) (insert z S)):=⟨_,rfl⟩
 obtain ⟨e2,he2⟩:∃ e2:Int->Bool,e2=fun z=>decide (Rk.Ind (rkM y) (insert z S)):=⟨_,rfl⟩
 have ca:∀ z:Int,0<=z/\z<x.n->Ret Tryz.prog w0 64 [.agg (mtC x++[ints S.l]),I z] (B (e1 z)):=fun z hz=>by rw [he1];exact adds_ret C.oa C.sub hz
 have cb:∀ z:Int,0<=z/\z<x.n->Ret Tryz.prog w0 64 [.agg (mtC y++[ints S.l]),I z] (B (e2 z)):=fun z hz=>by rw [he2];exact adds_ret C.ob C.sub' (by rw [<-C.nn];exact hz)
 have cs:∀ z u:Int,0<=z/\z<x.n->0<=u/\u<x.n->Ret Tryz.prog w0 65 [.agg (mtC x++[ints S.l]),I z,I u] (B (f z u)):=fun z u hz hu=>by rw [hf];exact lqh C.oa C.sub hz hu
 have ct:∀ z u:Int,0<=z/\z<x.n->0<=u/\u<x.n->Ret Tryz.prog w0 65 [.agg (mtC y++[ints S.l]),I z,I u] (B (g z u)):=fun z u hz hu=>by rw [hg0];exact lqh C.ob C.sub' (by rw [<-C.nn];exact hz) (by rw [<-C.nn];exact hu)
 have fin1:(upto x.n.toNat).map (rowP f g (cq5 S.l (FS.upTo x.n.toNat \ S).l))=adjS x y S:=by rw [hf,hg0];exact rows_final C
 have fin2:(FS.upTo x.n.toNat \ S).l.filter e1=bqj x S:=by rw [he1];exact mqh rfl
 have fin3:(FS.upTo x.n.toNat \ S).l.filter e2=bqj y S:=by rw [he2];exact mqh (by rw [C.nn])
 rw [<-fin1,<-fin2,<-fin3]
 have hSm:∀ z∈S.l,0<=z/\z<x.n:=fun z hz=>C.lt hz
 have hXm:∀ z∈(FS.upTo x.n.toNat \ S).l,(0<=z/\z<x.n)/\z∉S.l:=fun z hz=>by
  have:=FS.mem_sdiff.1 (bqa.1 hz)
  have h2:=FS.mem_upTo.1 this.1
  exact ⟨by omega,this.2⟩
 have cA:Ret Tryz.prog w0 63 [I x.n] (ints (FS.upTo x.n.toNat).l):=by
  have:=kqy (w0:=w0) (n:=x.n)
  rwa [allL,if_pos (by omega)] at this
 have hset:=cqg C.sub (by omega)
 have hU:aq3 (FS.upTo x.n.toNat).l:=cqd (by omega)
 have hUl:(FS.upTo x.n.toNat).l.length=x.n.toNat:=FS.card_upTo _
 have cM:Ret Tryz.prog w0 62 [ints (FS.upTo x.n.toNat).l,ints S.l] (ints (FS.upTo x.n.toNat \ S).l):=by
  have:=dqg (w0:=w0) (a:=(FS.upTo x.n.toNat).l) (b:=S.l) (by omega) (by omega)
  rw [equ hU hset,fq2] at this
  exact this
 have hXl:(FS.upTo x.n.toNat \ S).l.length<=64:=by
  have:(FS.upTo x.n.toNat \ S).l.length<=(FS.upTo x.n.toNat).l.length:=FS.card_le fun z hz=>(FS.mem_sdiff.1 hz).1
  omega
 have hnn':=C.nn
 clear fin1 fin2 fin3 hf hg0 he1 he2 hset hU hUl hS' C
 generalize (FS.upTo x.n.toNat \ S).l=X at *
 generalize (FS.upTo x.n.toNat).l=U at *
 generalize S.l=SL at *
 clear S
 intro H
 obtain ⟨t,n,a,b,l,xs⟩:=x
 obtain ⟨t',n',a',b',l',xs'⟩:=y
 have hnn:(Mtd.mk t n a b l xs).n=n:=rfl
 have hnn2:(Mtd.mk t' n' a' b' l' xs').n=n':=rfl
 rw [hnn,hnn2] at hnn'
 subst hnn'
 simp only [hnn] at hn ca cb cs ct hSm hXm cA cM ⊢
 simp only [mtA,mtC] at c1 ca cb cs ct ⊢
 refine aqf Tryz.func21 rfl Tryz.ntmps21 (ts:=[6,7,8,9]) rfl (by simp) (by kernel_rfl) ?_
 repeat'(with_reducible first|(refine aqd (hK _ _ ?_);clear hK K)|((fail_if_success(refine aql 1 ?_));(fail_if_success(refine(?_:AWP _ _ _ (Code.region 1 _ _) _ _ _)));refine vr [] fun K hK=>?_)|(refine aqa fun K' hK'=>?_;simp;repeat'(first|(apply hK';clear hK' K')|intro hg|fail))|((fail_if_success(refine aql 1 ?_));refine sp ?_)|fail)
 rename_i p hp q
 have hqp:q≠p:=by rintro rfl;simp at hg
 have hq:H q=none:=by rw [if_neg hqp] at hg;exact hg
 have hpq:p≠q:=Ne.symm hqp
 clear hg
 obtain ⟨H2,hH2⟩:∃ H2,H2=upd (upd H p (some (.box [I t,I n,I a,I b,rows l,.sl (mtCs xs) xs.length]))) q (some (.box [I t',I n,I a',I b',rows l',.sl (mtCs xs') xs'.length])):=⟨_,rfl⟩
 have hsub:Sub H H2:=by rw [hH2];exact ((Sub.refl H).upd hp _).upd hq _
 have lp:H2 p=some (.box [I t,I n,I a,I b,rows l,.sl (mtCs xs) xs.length]):=by rw [hH2,aqm _ _ _ hpq,aqj]
 have lq:H2 q=some (.box [I t',I n,I a',I b',rows l',.sl (mtCs xs') xs'.length]):=by rw [hH2,aqj]
 rw [<-hH2]
 clear hH2 hp hq hqp hpq
 repeat'(with_reducible first|(refine aqd (hK _ _ ?_);clear hK K)|((fail_if_success(refine aql 3 ?_));(fail_if_success(refine(?_:AWP _ _ _ (Code.region 3 _ _) _ _ _)));refine vr [] fun K hK=>?_)|((first|refine aqa fun K' hK'=>?_|refine aqb fun K' B hK' hB=>?_);simp[lp,lq];repeat'(first|((first|refine hK' ?_|refine hB ?_);clear hK' hB K' B)|(apply hK';clear hK' K')|refine Ret.use c1 ?_|fail))|((fail_if_success(refine aql 3 ?_));refine sp ?_)|fail)
 refine iqj mixed H2 [] [24,27] [0,1,2,3,4,5,6,7,8,9] (Sub.refl _) (by kernel_rfl) (fun K hK=> ?_)
 simp only [List.filterMap_cons,List.filterMap_nil,List.getElem?_cons_succ,List.getElem?_cons_zero]
 repeat' (first
  | (with_reducible refine eg_nil (hK _ _ ?_);clear hK K)
  | (with_reducible refine nqp (fun K' hK'=> ?_);simp [lp,lq];repeat' (first | (with_reducible refine hK' _ _ ?_;clear hK' K') | (with_reducible refine And.intro ?_ ?_) | (with_reducible intro hg) | (clear hK' K';omega))))
 ·exact aqh hg
 ·rename_i u hu v;exact ((Sub.refl _).upd hu _).upd (gqd hg).2 _
 ·rename_i u hu v;exact (((Sub.refl _).upd hu _).upd (gqd hg).2 _).upd hu _
 rename_i u hu v
 obtain ⟨hvu,hv⟩:=gqd hg
 clear hg
 simp only [if_neg hvu]
 refine ⟨by simp,?_,?_⟩
 ·simp only [aq9 _ _ _ hvu,aqx]
  exact ((Sub.refl _).upd hu _).upd hv _
 with_reducible refine hK' _ _ ?_
 clear hK' K'
 repeat' (first
  | (with_reducible refine eg_nil (hK _ _ ?_);clear hK K)
  | (with_reducible refine nqp (fun K' hK'=> ?_);simp [lp,lq];repeat' (first | (with_reducible refine hK' _ _ ?_;clear hK' K') | (with_reducible refine And.intro ?_ ?_) | (with_reducible intro hg) | (clear hK' K';omega))))
 simp only [aq9 _ _ _ hvu,aqx,List.set_cons_zero,List.set_cons_succ]
 obtain ⟨H3,hH3⟩:∃ H3,H3=upd (upd H2 u (some (.box [I t,I n,I a,I b,rows l,.sl (mtCs xs) xs.length,ints SL]))) v (some (.box [I t',I n,I a',I b',rows l',.sl (mtCs xs') xs'.length,ints SL])):=⟨_,rfl⟩
 rw [<-hH3]
 have hsub3:Sub H H3:=by rw [hH3];exact (hsub.upd (fqb hsub hu) _).upd (fqb hsub hv) _
 have lp3:H3 p=some (.box [I t,I n,I a,I b,rows l,.sl (mtCs xs) xs.length]):=by rw [hH3,upd_free (by rw [aqm _ _ _ hvu];exact hv) (upd_free hu lp)]
 have lu3:H3 u=some (.box [I t,I n,I a,I b,rows l,.sl (mtCs xs) xs.length,ints SL]):=by rw [hH3,aqm _ _ _ (Ne.symm hvu),aqj]
 have lv3:H3 v=some (.box [I t',I n,I a',I b',rows l',.sl (mtCs xs') xs'.length,ints SL]):=by rw [hH3,aqj]
 clear hH3 lp lq hu hv hvu hsub c1 H2
 simp only [List.cons_append,List.nil_append] at ca cb cs ct
 repeat'(with_reducible first|(refine aqd (hK _ _ ?_);clear hK K)|((fail_if_success(refine aql 6 ?_));(fail_if_success(refine(?_:AWP _ _ _ (Code.region 6 _ _) _ _ _)));refine vr [13,14] fun K hK=>?_)|(refine aqa fun K' hK'=>?_;simp[lp3];repeat'(first|(apply hK';clear hK' K')|refine And.intro ?_ ?_|intro hg|(clear hK' K';omega)))|((fail_if_success(refine aql 6 ?_));refine sp ?_)|fail)
 all_goals try omega
 rename_i O hO rf hrf rt
 obtain ⟨hfO,hf3⟩:=gqd hrf
 obtain ⟨htf,htO,ht3⟩:=ite_free2 hg
 clear hg hrf
 have R0:=rows_make (e:=26) (n:=n.toNat) hO
 have R1:=R0.base (m:=rf) (k:= .arr 1 3 [] 0) (.inr (by rw [aqm _ _ _ hfO];exact hf3))
 have R2:=R1.base (m:=rt) (k:= .arr 1 3 [] 0) (.inr (by rw [aqm _ _ _ htf,aqm _ _ _ htO];exact ht3))
 clear R0 R1
 have lpO:H3 p≠none:=by rw [lp3];simp
 have key:∀ {F T:List Int} {h:Heap} {L:List (List Int)} {cells:List AV},Rows 26 (hbG H3 rf rt F T) h O L cells->h p=some (.box [I t,I n,I a,I b,rows l,.sl (mtCs xs) xs.length])/\h u=some (.box [I t,I n,I a,I b,rows l,.sl (mtCs xs) xs.length,ints SL])/\h v=some (.box [I t',I n,I a',I b',rows l',.sl (mtCs xs') xs'.length,ints SL])/\
   h rf=some (.arr 1 3 (F.map I) F.length)/\h rt=some (.arr 1 3 (T.map I) T.length):=fun R=>
  ⟨R.sub _ _ (hbG_old hf3 ht3 lp3),R.sub _ _ (hbG_old hf3 ht3 lu3),R.sub _ _ (hbG_old hf3 ht3 lv3),R.sub _ _ (hbG_rf htf),R.sub _ _ hbG_rt⟩
 have R3:Rows 26 (hbG H3 rf rt [] []) _ O (List.replicate n.toNat []) (List.replicate n.toNat (.sc (.slice none 0 0))):=R2
 clear R2
 obtain ⟨kp,ku,kv,kf,kt⟩:=key R3
 generalize upd (upd (upd H3 O _) rf _) rt _=h0 at *
 repeat'(with_reducible first|(refine aqd (hK _ _ ?_);clear hK K)|((fail_if_success(refine aql 7 ?_));(fail_if_success(refine(?_:AWP _ _ _ (Code.region 7 _ _) _ _ _)));refine vr [] fun K hK=>?_)|(refine aqa fun K' hK'=>?_;simp[kp];repeat'(first|(apply hK';clear hK' K')|refine Ret.use cA ?_|refine Ret.use cM ?_|fail))|((fail_if_success(refine aql 7 ?_));refine sp ?_)|fail)
 have hJ0:List.replicate n.toNat []=(upto n.toNat).map (rowP f g (cq5 SL (X.take 0))):=by
  refine List.ext_getElem (by simp) fun i h1 h2=> ?_
  simp [cq5,rowP]
 rw [hJ0] at R3
 refine aqi (fun env h=>∃ (i:Nat) (cells:List AV),i<=X.length/\env 39=I i/\env 38=I X.length/\env 37=ints X/\env 2=ints SL/\env 3= .ptr p 0 0/\env 10= .ptr u 0 0/\env 11= .ptr v 0 0/\env 12= .ref O 0 n.toNat n.toNat/\env 13= .ref rf 0 ((X.take i).filter e1).length ((X.take i).filter e1).length/\env 14= .ref rt 0 ((X.take i).filter e2).length ((X.take i).filter e2).length/\
   Rows 26 (hbG H3 rf rt ((X.take i).filter e1) ((X.take i).filter e2)) h O ((upto n.toNat).map (rowP f g (cq5 SL (X.take i)))) cells) (fun env _=>X.length-natA (env 39)) ?_ ?_
 ·exact ⟨0,_,by omega,by simp,by simp [ints],by simp [ints],by simp [ints],by simp,by simp,by simp,by simp,by simp,by simp,by simpa using R3⟩
 clear R3 kp ku kv kf kt hJ0 h0
 rintro env h ⟨i,cells,hi,h39,h38,h37,h2,h3,h10,h11,h12,h13,h14,R⟩
 have hnat:natA (env 39)=i:=by simp [h39]
 rw [hnat];clear hnat
 by_cases gi:i<X.length
 ·have hx:=hXm _ (List.getElem_mem gi)
  have htk:X.take (i+1)=X.take i++[X[i]]:=List.take_succ_eq_append_getElem gi
  have hXi:∀ h:i<X.length,X[i]'h=X[i]'gi:=fun _=>rfl
  have hF1:(X.take (i+1)).filter e1=(X.take i).filter e1++if e1 X[i]=true then [X[i]] else []:=by rw [htk,List.filter_append,lq5]
  have hT1:(X.take (i+1)).filter e2=(X.take i).filter e2++if e2 X[i]=true then [X[i]] else []:=by rw [htk,List.filter_append,lq5]
  have hFl:((X.take i).filter e1).length<=64:=by have:=List.length_filter_le e1 (X.take i);rw [List.length_take] at this;omega
  have hTl:((X.take i).filter e2).length<=64:=by have:=List.length_filter_le e2 (X.take i);rw [List.length_take] at this;omega
  have hPL:=pairL_snoc SL (X.take i) X[i]
  rw [<-htk] at hPL
  have hPl:(cq5 SL (X.take i)).length<=4096:=by
   rw [pairL_len,List.length_take]
   exact Nat.le_trans (Nat.mul_le_mul (show min i X.length<=64 by omega) hlen) (by omega)
  clear htk
  generalize hFe:(X.take (i+1)).filter e1=F1 at *
  generalize hTe:(X.take (i+1)).filter e2=T1 at *
  generalize (X.take i).filter e1=F at *
  generalize (X.take i).filter e2=T at *
  generalize hPe:cq5 SL (X.take (i+1))=PL1 at *
  generalize cq5 SL (X.take i)=PL at *
  generalize hxx:X[i]=x at *
  obtain ⟨kp,ku,kv,kf,kt⟩:=key R
  have d1:=ca x hx.1
  have d2:=cb x hx.1
  repeat'(with_reducible first|(refine aqd (hK _ _ ?_);clear hK K)|((fail_if_success(refine nqw 9 ?_));refine vr [] fun K hK=>?_)|((first|refine aqa fun K' hK'=>?_|refine aqb fun K' B hK' hB=>?_);simp[h39,h38,h37,h2,h3,h10,h11,h12,h13,h14,ints,gi,hXi];repeat'(first|((first|refine hK' ?_|refine hB ?_);clear hK' hB K' B)|(apply hK';clear hK' K')|fail))|((fail_if_success(refine nqw 9 ?_));refine sp ?_)|fail)
  refine nqv (fun env h=>env 39=I i/\env 38=I X.length/\env 37=ints X/\env 2=ints SL/\env 3= .ptr p 0 0/\env 10= .ptr u 0 0/\env 11= .ptr v 0 0/\env 12= .ref O 0 n.toNat n.toNat/\env 13= .ref rf 0 F1.length F1.length/\env 14= .ref rt 0 T.length T.length/\env 16=I x/\
    Rows 26 (hbG H3 rf rt F1 T) h O ((upto n.toNat).map (rowP f g PL)) cells) ?_ ?_
  ·generalize e1 x=b1 at *
   cases b1 with
   | false=>
    rw [if_neg (by simp),List.append_nil] at hF1
    subst hF1
    repeat'(with_reducible first|(refine aqd (hK _ _ ?_);clear hK K)|refine vr [] fun K hK=>?_|((first|refine aqa fun K' hK'=>?_|refine aqb fun K' B hK' hB=>?_);simp[h39,h38,h37,h2,h3,h10,h11,h12,h13,h14,ints,ku];repeat'(first|((first|refine hK' ?_|refine hB ?_);clear hK' hB K' B)|(apply hK';clear hK' K')|refine Ret.use d1 ?_|fail))|refine sp ?_|fail)
    exact ⟨by simp [h39],by simp [h38],by simp [h37],by simp [h2],by simp [h3],by simp [h10],by simp [h11],by simp [h12],by simp [h13],by simp [h14],by simp,R⟩
   | true=>
    rw [if_pos rfl] at hF1
    have R':=R.base (m:=rf) (k:= .arr 1 3 (F1.map I) F1.length) (.inl (by rw [hbG_rf htf];simp))
    rw [hbG_f htf] at R'
    subst hF1
    repeat'(with_reducible first|(refine aqd (hK _ _ ?_);clear hK K)|refine vr [] fun K hK=>?_|((first|refine aqa fun K' hK'=>?_|refine aqb fun K' B hK' hB=>?_);simp[h39,h38,h37,h2,h3,h10,h11,h12,h13,h14,ints,ku,kf];repeat'(first|((first|refine hK' ?_|refine hB ?_);clear hK' hB K' B)|(apply hK';clear hK' K')|refine Ret.use d1 ?_|refine And.intro ?_ ?_|(clear hK' K';omega)))|refine sp ?_|fail)
    exact ⟨by simp [h39],by simp [h38],by simp [h37],by simp [h2],by simp [h3],by simp [h10],by simp [h11],by simp [h12],by simp [h13],by simp [h14],by simp,by simpa using R'⟩
  clear d1 R kp ku kv kf kt h39 h38 h37 h2 h3 h10 h11 h12 h13 h14 h env
  rintro env h ⟨h39,h38,h37,h2,h3,h10,h11,h12,h13,h14,h16,R⟩
  obtain ⟨kp,ku,kv,kf,kt⟩:=key R
  refine nqv (fun env h=>env 39=I i/\env 38=I X.length/\env 37=ints X/\env 2=ints SL/\env 3= .ptr p 0 0/\env 10= .ptr u 0 0/\env 11= .ptr v 0 0/\env 12= .ref O 0 n.toNat n.toNat/\env 13= .ref rf 0 F1.length F1.length/\env 14= .ref rt 0 T1.length T1.length/\env 16=I x/\
    Rows 26 (hbG H3 rf rt F1 T1) h O ((upto n.toNat).map (rowP f g PL)) cells) ?_ ?_
  ·generalize e2 x=b1 at *
   cases b1 with
   | false=>
    rw [if_neg (by simp),List.append_nil] at hT1
    subst hT1
    repeat'(with_reducible first|(refine aqd (hK _ _ ?_);clear hK K)|refine vr [] fun K hK=>?_|((first|refine aqa fun K' hK'=>?_|refine aqb fun K' B hK' hB=>?_);simp[h39,h38,h37,h2,h3,h10,h11,h12,h13,h14,h16,ints,kv];repeat'(first|((first|refine hK' ?_|refine hB ?_);clear hK' hB K' B)|(apply hK';clear hK' K')|refine Ret.use d2 ?_|fail))|refine sp ?_|fail)
    exact ⟨by simp [h39],by simp [h38],by simp [h37],by simp [h2],by simp [h3],by simp [h10],by simp [h11],by simp [h12],by simp [h13],by simp [h14],by simp [h16],R⟩
   | true=>
    rw [if_pos rfl] at hT1
    have R':=R.base (m:=rt) (k:= .arr 1 3 (T1.map I) T1.length) (.inl (by rw [hbG_rt];simp))
    rw [hbG_t] at R'
    subst hT1
    repeat'(with_reducible first|(refine aqd (hK _ _ ?_);clear hK K)|refine vr [] fun K hK=>?_|((first|refine aqa fun K' hK'=>?_|refine aqb fun K' B hK' hB=>?_);simp[h39,h38,h37,h2,h3,h10,h11,h12,h13,h14,h16,ints,kv,kt];repeat'(first|((first|refine hK' ?_|refine hB ?_);clear hK' hB K' B)|(apply hK';clear hK' K')|refine Ret.use d2 ?_|refine And.intro ?_ ?_|(clear hK' K';omega)))|refine sp ?_|fail)
    exact ⟨by simp [h39],by simp [h38],by simp [h37],by simp [h2],by simp [h3],by simp [h10],by simp [h11],by simp [h12],by simp [h13],by simp [h14],by simp [h16],by simpa using R'⟩
  clear d2 R kp ku kv kf kt h39 h38 h37 h2 h3 h10 h11 h12 h13 h14 h16 h env
  rintro env h ⟨h39,h38,h37,h2,h3,h10,h11,h12,h13,h14,h16,R⟩
  repeat'(with_reducible first|(refine aqd (hK _ _ ?_);clear hK K)|((fail_if_success(refine aql 14 ?_));(fail_if_success(refine(?_:AWP _ _ _ (Code.region 14 _ _) _ _ _)));refine vr [] fun K hK=>?_)|(refine aqa fun K' hK'=>?_;simp[h39,h38,h37,h2,h3,h10,h11,h12,h13,h14,h16,ints];repeat'(first|(apply hK';clear hK' K')|fail))|((fail_if_success(refine aql 14 ?_));refine sp ?_)|fail)
  refine aqi (fun env h=>∃ (j:Nat) (cells:List AV),j<=SL.length/\env 59=I j/\env 58=I SL.length/\env 57=ints SL/\env 39=I i/\env 38=I X.length/\env 37=ints X/\env 2=ints SL/\env 3= .ptr p 0 0/\env 10= .ptr u 0 0/\env 11= .ptr v 0 0/\env 12= .ref O 0 n.toNat n.toNat/\env 13= .ref rf 0 F1.length F1.length/\env 14= .ref rt 0 T1.length T1.length/\env 16=I x/\
    Rows 26 (hbG H3 rf rt F1 T1) h O ((upto n.toNat).map (rowP f g (PL++(SL.take j).map fun y=>(x,y)))) cells) (fun env _=>SL.length-natA (env 59)) ?_ ?_
  ·exact ⟨0,cells,by omega,by simp,by simp,by simp [ints],by simp [h39],by simp [h38],by simp [h37],by simp [h2],by simp [h3],by simp [h10],by simp [h11],by simp [h12],by simp [h13],by simp [h14],by simp [h16],by simpa using R⟩
  clear R h39 h38 h37 h2 h3 h10 h11 h12 h13 h14 h16 h env cells
  rintro env h ⟨j,cells,hj,h59,h58,h57,h39,h38,h37,h2,h3,h10,h11,h12,h13,h14,h16,R⟩
  have hnat:natA (env 59)=j:=by simp [h59]
  rw [hnat];clear hnat
  by_cases gj:j<SL.length
  ·have hy:=hSm _ (List.getElem_mem gj)
   have htk:SL.take (j+1)=SL.take j++[SL[j]]:=List.take_succ_eq_append_getElem gj
   have hyi:∀ h:j<SL.length,SL[j]'h=SL[j]'gj:=fun _=>rfl
   have hP2:∀ q,rowP f g (PL++(SL.take (j+1)).map fun y=>(x,y)) q=(rowP f g (PL++(SL.take j).map fun y=>(x,y)) q++(if q=SL[j]/\f x SL[j]=true then [x] else []))++(if q=x/\g x SL[j]=true then [SL[j]] else []):=fun q=>by
    rw [htk,List.map_append,<-List.append_assoc];exact rowP_snoc _ _ _ _ _ _
   have hrl:∀ q,(rowP f g (PL++(SL.take j).map fun y=>(x,y)) q).length<=10000:=fun q=>by
    have:=rowP_len f g (PL++(SL.take j).map fun y=>(x,y)) q
    rw [List.length_append,List.length_map,List.length_take] at this;omega
   clear htk
   generalize hr2e:rowP f g (PL++(SL.take (j+1)).map fun y=>(x,y))=r2 at *
   generalize rowP f g (PL++(SL.take j).map fun y=>(x,y))=r at *
   generalize hyy:SL[j]=y at *
   have d1:=cs x y hx.1 hy
   have d2:=ct x y hx.1 hy
   obtain ⟨kp,ku,kv,kf,kt⟩:=key R
   repeat'(with_reducible first|(refine aqd (hK _ _ ?_);clear hK K)|((fail_if_success(refine nqw 16 ?_));refine vr [] fun K hK=>?_)|((first|refine aqa fun K' hK'=>?_|refine aqb fun K' B hK' hB=>?_);simp[h59,h58,h57,h39,h38,h37,h2,h3,h10,h11,h12,h13,h14,h16,ints,gj,hyi];repeat'(first|((first|refine hK' ?_|refine hB ?_);clear hK' hB K' B)|(apply hK';clear hK' K')|fail))|((fail_if_success(refine nqw 16 ?_));refine sp ?_)|fail)
   refine nqv (fun env h=>∃ cells,env 59=I j/\env 58=I SL.length/\env 57=ints SL/\env 39=I i/\env 38=I X.length/\env 37=ints X/\env 2=ints SL/\env 3= .ptr p 0 0/\env 10= .ptr u 0 0/\env 11= .ptr v 0 0/\env 12= .ref O 0 n.toNat n.toNat/\env 13= .ref rf 0 F1.length F1.length/\env 14= .ref rt 0 T1.length T1.length/\env 16=I x/\env 18=I y/\
    Rows 26 (hbG H3 rf rt F1 T1) h O ((upto n.toNat).map fun q=>r q++(if q=y/\f x y=true then [x] else [])) cells) ?_ ?_
   ·generalize f x y=b1 at *
    cases b1 with
    | false=>
     repeat'(with_reducible first|(refine aqd (hK _ _ ?_);clear hK K)|refine vr [] fun K hK=>?_|((first|refine aqa fun K' hK'=>?_|refine aqb fun K' B hK' hB=>?_);simp[h59,h58,h57,h39,h38,h37,h2,h3,h10,h11,h12,h13,h14,h16,ints,ku];repeat'(first|((first|refine hK' ?_|refine hB ?_);clear hK' hB K' B)|(apply hK';clear hK' K')|refine Ret.use d1 ?_|fail))|refine sp ?_|fail)
     exact ⟨cells,by simp [h59],by simp [h58],by simp [h57],by simp [h39],by simp [h38],by simp [h37],by simp [h2],by simp [h3],by simp [h10],by simp [h11],by simp [h12],by simp [h13],by simp [h14],by simp [h16],by simp,by simpa using R⟩
    | true=>
     have hget:=lqv (n:=n.toNat) (h:=r) (k:=y) (by omega)
     have hset:=lqu (n:=n.toNat) (h:=r) (k:=y) (v:=r y++[x]) hy.1
     have hfun:(fun q=>if q=y then r y++[x] else r q)=fun q=>r q++(if q=y/\true=true then [x] else []):=by
      funext q;by_cases e:q=y
      ·subst e;simp
      ·simp [e]
     rw [hfun] at hset
     have hryl:=hrl y
     have hcl:=R.len
     rw [List.length_map,aqv] at hcl
     have hO':=R.out
     rw [List.length_map,aqv] at hO'
     have hyn:(y).toNat<n.toNat:=by omega
     rcases R.row _ _ hget with ⟨hp0,hc0⟩ | ⟨q,hcq,hq,hHq,hqO⟩
     ·have hc0':∀ h:(y).toNat<cells.length,cells[(y).toNat]'h= .sc (.slice none 0 0):=fun h=>(List.getElem?_eq_some_iff.1 hc0).2
      rw [hp0] at hset hget
      repeat'(with_reducible first|(refine aqd (hK _ _ ?_);clear hK K)|refine vr [] fun K hK=>?_|((first|refine aqa fun K' hK'=>?_|refine aqb fun K' B hK' hB=>?_);simp[h59,h58,h57,h39,h38,h37,h2,h3,h10,h11,h12,h13,h14,h16,ints,ku,hO',hyn,hy.1,hc0',hcl];repeat'(first|((first|refine hK' ?_|refine hB ?_);clear hK' hB K' B)|(apply hK';clear hK' K')|refine Ret.use d1 ?_|refine And.intro ?_ ?_|intro hg|(clear hK' K';omega)))|fail)
      all_goals try omega
      rename_i q
      have hOq:O≠q:=by rintro rfl;rw [hO'] at hg;cases hg
      have R1:=R.push (v:=x) hget (.inl ⟨rfl,hg⟩)
      rw [List.length_map,aqv,hset] at R1
      simp [hOq]
      with_reducible refine hK' _ _ ?_
      clear hK' K'
      repeat'(with_reducible first|(refine aqd (hK _ _ ?_);clear hK K)|(refine aqa fun K' hK'=>?_;simp[h59,h58,h57,h39,h38,h37,h2,h3,h10,h11,h12,h13,h14,h16,ints,ku,hO',hyn,hy.1,hcl,hOq];repeat'(first|(apply hK';clear hK' K')|refine And.intro ?_ ?_|(clear hK' K';omega)))|refine sp ?_|fail)
      all_goals try omega
      exact ⟨_,by simp [h59],by simp [h58],by simp [h57],by simp [h39],by simp [h38],by simp [h37],by simp [h2],by simp [h3],by simp [h10],by simp [h11],by simp [h12],by simp [h13],by simp [h14],by simp [h16],by simp,by simpa [hOq] using R1⟩
     ·have hOq:O≠q:=fun e=>hqO e.symm
      have R1:=R.push (v:=x) hget (.inr hcq)
      rw [List.length_map,aqv,hset] at R1
      have hcq':∀ h:(y).toNat<cells.length,cells[(y).toNat]'h= .ref q 0 (r y).length (r y).length:=fun h=>(List.getElem?_eq_some_iff.1 hcq).2
      repeat'(with_reducible first|(refine aqd (hK _ _ ?_);clear hK K)|refine vr [] fun K hK=>?_|((first|refine aqa fun K' hK'=>?_|refine aqb fun K' B hK' hB=>?_);simp[h59,h58,h57,h39,h38,h37,h2,h3,h10,h11,h12,h13,h14,h16,ints,ku,hO',hyn,hy.1,hcq',hcl,hq,hqO,hOq];repeat'(first|((first|refine hK' ?_|refine hB ?_);clear hK' hB K' B)|(apply hK';clear hK' K')|refine Ret.use d1 ?_|refine And.intro ?_ ?_|(clear hK' K';omega)))|refine sp ?_|fail)
      all_goals try omega
      exact ⟨_,by simp [h59],by simp [h58],by simp [h57],by simp [h39],by simp [h38],by simp [h37],by simp [h2],by simp [h3],by simp [h10],by simp [h11],by simp [h12],by simp [h13],by simp [h14],by simp [h16],by simp,by simpa [hOq] using R1⟩
   generalize hr1:(fun q=>r q++(if q=y/\f x y=true then [x] else []))=r1 at *
   have hrl:∀ q,(r1 q).length<=10001:=fun q=>by
    rw [<-hr1]
    have:=hrl q
    simp only [List.length_append]
    split<;>simp<;>omega
   have hP2:∀ q,r2 q=r1 q++(if q=x/\g x y=true then [y] else []):=fun q=>by rw [hP2,<-hr1]
   clear d1 R kp ku kv kf kt h39 h38 h37 h2 h3 h10 h11 h12 h13 h14 h16 h59 h58 h57 h env cells hr1
   rintro env h ⟨cells,h59,h58,h57,h39,h38,h37,h2,h3,h10,h11,h12,h13,h14,h16,h18,R⟩
   obtain ⟨kp,ku,kv,kf,kt⟩:=key R
   have hr2:(fun q=>r1 q++(if q=x/\g x y=true then [y] else []))=r2:=funext fun q=>(hP2 q).symm
   generalize g x y=b1 at *
   cases b1 with
   | false=>
    repeat'(with_reducible first|(refine aqd (hK _ _ ?_);clear hK K)|refine vr [] fun K hK=>?_|((first|refine aqa fun K' hK'=>?_|refine aqb fun K' B hK' hB=>?_);simp[h59,h58,h57,h39,h38,h37,h2,h3,h10,h11,h12,h13,h14,h16,h18,ints,kv];repeat'(first|((first|refine hK' ?_|refine hB ?_);clear hK' hB K' B)|(apply hK';clear hK' K')|refine Ret.use d2 ?_|refine And.intro ?_ ?_|(clear hK' K';omega)))|refine sp ?_|fail)
    exact ⟨⟨j+1,cells,by omega,by simp,by simp [h58],by simp [h57],by simp [h39],by simp [h38],by simp [h37],by simp [h2],by simp [h3],by simp [h10],by simp [h11],by simp [h12],by simp [h13],by simp [h14],by simp [h16],by rw [hr2e,<-hr2];simpa using R⟩,by simp;omega⟩
   | true=>
    have hget:=lqv (n:=n.toNat) (h:=r1) (k:=x) (by omega)
    have hset:=lqu (n:=n.toNat) (h:=r1) (k:=x) (v:=r1 x++[y]) hx.1.1
    have hfun:(fun q=>if q=x then r1 x++[y] else r1 q)=fun q=>r1 q++(if q=x/\true=true then [y] else []):=by
     funext q;by_cases e:q=x
     ·subst e;simp
     ·simp [e]
    rw [hfun] at hset
    have hryl:=hrl x
    have hcl:=R.len
    rw [List.length_map,aqv] at hcl
    have hO':=R.out
    rw [List.length_map,aqv] at hO'
    have hyn:(x).toNat<n.toNat:=by omega
    rcases R.row _ _ hget with ⟨hp0,hc0⟩ | ⟨q,hcq,hq,hHq,hqO⟩
    ·have hc0':∀ h:(x).toNat<cells.length,cells[(x).toNat]'h= .sc (.slice none 0 0):=fun h=>(List.getElem?_eq_some_iff.1 hc0).2
     rw [hp0] at hset hget
     repeat'(with_reducible first|(refine aqd (hK _ _ ?_);clear hK K)|refine vr [] fun K hK=>?_|((first|refine aqa fun K' hK'=>?_|refine aqb fun K' B hK' hB=>?_);simp[h59,h58,h57,h39,h38,h37,h2,h3,h10,h11,h12,h13,h14,h16,h18,ints,kv,hO',hyn,hx.1.1,hc0',hcl];repeat'(first|((first|refine hK' ?_|refine hB ?_);clear hK' hB K' B)|(apply hK';clear hK' K')|refine Ret.use d2 ?_|refine And.intro ?_ ?_|intro hg|(clear hK' K';omega)))|fail)
     all_goals try omega
     rename_i q
     have hOq:O≠q:=by rintro rfl;rw [hO'] at hg;cases hg
     have R1:=R.push (v:=y) hget (.inl ⟨rfl,hg⟩)
     rw [List.length_map,aqv,hset] at R1
     simp [hOq]
     with_reducible refine hK' _ _ ?_
     clear hK' K'
     repeat'(with_reducible first|(refine aqd (hK _ _ ?_);clear hK K)|refine vr [] fun K hK=>?_|(refine aqa fun K' hK'=>?_;simp[h59,h58,h57,h39,h38,h37,h2,h3,h10,h11,h12,h13,h14,h16,h18,ints,kv,hO',hyn,hx.1.1,hcl,hOq];repeat'(first|(apply hK';clear hK' K')|refine And.intro ?_ ?_|(clear hK' K';omega)))|refine sp ?_|fail)
     all_goals try omega
     exact ⟨⟨j+1,_,by omega,by simp,by simp [h58],by simp [h57],by simp [h39],by simp [h38],by simp [h37],by simp [h2],by simp [h3],by simp [h10],by simp [h11],by simp [h12],by simp [h13],by simp [h14],by simp [h16],by rw [hr2e,<-hr2];simpa [hOq] using R1⟩,by simp;omega⟩
    ·have hOq:O≠q:=fun e=>hqO e.symm
     have R1:=R.push (v:=y) hget (.inr hcq)
     rw [List.length_map,aqv,hset] at R1
     have hcq':∀ h:(x).toNat<cells.length,cells[(x).toNat]'h= .ref q 0 (r1 x).length (r1 x).length:=fun h=>(List.getElem?_eq_some_iff.1 hcq).2
     repeat'(with_reducible first|(refine aqd (hK _ _ ?_);clear hK K)|refine vr [] fun K hK=>?_|((first|refine aqa fun K' hK'=>?_|refine aqb fun K' B hK' hB=>?_);simp[h59,h58,h57,h39,h38,h37,h2,h3,h10,h11,h12,h13,h14,h16,h18,ints,kv,hO',hyn,hx.1.1,hcq',hcl,hq,hqO,hOq];repeat'(first|((first|refine hK' ?_|refine hB ?_);clear hK' hB K' B)|(apply hK';clear hK' K')|refine Ret.use d2 ?_|refine And.intro ?_ ?_|(clear hK' K';omega)))|refine sp ?_|fail)
     all_goals try omega
     exact ⟨⟨j+1,_,by omega,by simp,by simp [h58],by simp [h57],by simp [h39],by simp [h38],by simp [h37],by simp [h2],by simp [h3],by simp [h10],by simp [h11],by simp [h12],by simp [h13],by simp [h14],by simp [h16],by rw [hr2e,<-hr2];simpa [hOq] using R1⟩,by simp;omega⟩
  ·obtain rfl:j=SL.length:=by omega
   rw [List.take_length,<-hPL,<-hFe,<-hTe,<-hPe] at R
   rw [<-hFe] at h13
   rw [<-hTe] at h14
   repeat'(with_reducible first|(refine aqd (hK _ _ ?_);clear hK K)|refine vr [] fun K hK=>?_|((first|refine aqa fun K' hK'=>?_|refine aqb fun K' B hK' hB=>?_);simp[h59,h58,h57,h39,h38,h37,h2,h3,h10,h11,h12,h13,h14,h16,ints,gj];repeat'(first|((first|refine hK' ?_|refine hB ?_);clear hK' hB K' B)|(apply hK';clear hK' K')|refine And.intro ?_ ?_|(clear hK' K';omega)))|refine sp ?_|fail)
   exact ⟨⟨i+1,cells,by omega,by simp,by simp [h38],by simp [h37],by simp [h2],by simp [h3],by simp [h10],by simp [h11],by simp [h12],by simp [h13],by simp [h14],R⟩,by simp;omega⟩
 ·obtain rfl:i=X.length:=by omega
  rw [List.take_length] at R h13 h14
  have hml:((upto n.toNat).map (rowP f g (cq5 SL X))).length=n.toNat:=by simp
  rw [<-hml] at h12
  refine awp_rows 12 R h12 fun env' he he2=> ?_
  have g39:env' 39=I X.length:=by rw [he2 _ (by decide),h39]
  have g38:env' 38=I X.length:=by rw [he2 _ (by decide),h38]
  have g13:env' 13= .ref rf 0 (X.filter e1).length (X.filter e1).length:=by rw [he2 _ (by decide),h13]
  have g14:env' 14= .ref rt 0 (X.filter e2).length (X.filter e2).length:=by rw [he2 _ (by decide),h14]
  rw [hbG]
  refine dqk 14 g14 (by rw [aqm _ _ _ htf];exact ht3) fun env'' f14 fo=> ?_
  rw [bqw] at f14
  have k39:env'' 39=I X.length:=by rw [fo _ (by decide),g39]
  have k38:env'' 38=I X.length:=by rw [fo _ (by decide),g38]
  have k13:env'' 13= .ref rf 0 (X.filter e1).length (X.filter e1).length:=by rw [fo _ (by decide),g13]
  have k12:env'' 12=rows ((upto n.toNat).map (rowP f g (cq5 SL X))):=by rw [fo _ (by decide),he]
  refine dqk 13 k13 hf3 fun env3 f13 fo3=> ?_
  rw [bqw] at f13
  have q39:env3 39=I X.length:=by rw [fo3 _ (by decide),k39]
  have q38:env3 38=I X.length:=by rw [fo3 _ (by decide),k38]
  have q14:env3 14=ints (X.filter e2):=by rw [fo3 _ (by decide),f14]
  have q12:env3 12=rows ((upto n.toNat).map (rowP f g (cq5 SL X))):=by rw [fo3 _ (by decide),k12]
  generalize (upto n.toNat).map (rowP f g (cq5 SL X))=A at *
  generalize X.filter e1=F at *
  generalize X.filter e2=T at *
  repeat'(with_reducible first|(refine aqd (hK _ _ ?_);clear hK K)|refine vr [] fun K hK=>?_|((first|refine aqa fun K' hK'=>?_|refine aqb fun K' B hK' hB=>?_);simp[q39,q38,q14,q12,f13,gi];repeat'(first|((first|refine hK' ?_|refine hB ?_);clear hK' hB K' B)|(apply hK';clear hK' K')|fail))|apply aqc|refine sp ?_|fail)
  exact ⟨by simp [ints],hsub3⟩
theorem grow_use {n:Nat} (hn:n<=1000000) {H:Heap} {K:AV->Heap->Prop} (k0:n=0->K (.sl [] 0) H)
  (k:0<n->∀ r,H r=none->K (.ref r 0 0 n) (upd H r (some (.arr 1 3 (List.replicate n (I 0)) n)))):aqo Tryz.prog w0 109 [.sc (.slice none 0 0),I n] H K:=by
 by_cases h0:n=0
 ·have:=k0 h0
  subst h0
  refine aqf Tryz.func109 rfl Tryz.ntmps109 (ts:=[4]) rfl (by simp) (by kernel_rfl) ?_
  repeat'(with_reducible first|(refine aqd (hK _ _ ?_);clear hK K)|refine vr [] fun K hK=>?_|((first|refine aqa fun K' hK'=>?_|refine aqb fun K' B hK' hB=>?_);simp;repeat'(first|((first|refine hK' ?_|refine hB ?_);clear hK' hB K' B)|(apply hK';clear hK' K')|fail))|apply aqc|refine sp ?_|fail)
  simpa [resA] using this
 ·have hp:0<n:=by omega
  have k':=k hp
  refine aqf Tryz.func109 rfl Tryz.ntmps109 (ts:=[4]) rfl (by simp) (by kernel_rfl) ?_
  repeat'(with_reducible first|(refine aqd (hK _ _ ?_);clear hK K)|refine vr [] fun K hK=>?_|((first|refine aqa fun K' hK'=>?_|refine aqb fun K' B hK' hB=>?_);simp[hp,h0];repeat'(first|((first|refine hK' ?_|refine hB ?_);clear hK' hB K' B)|(apply hK';clear hK' K')|refine And.intro ?_ ?_|intro hg|(clear hK' K';omega)))|apply aqc|refine sp ?_|fail)
  all_goals try omega
  rename_i r
  simpa [resA] using k' r hg
theorem jqc {L:List (List Int)} {q:Nat} (h:q<L.length):(L.take (q+1)).flatten=(L.take q).flatten++L[q]:=by
 rw [List.take_succ_eq_append_getElem h,List.flatten_append];simp
theorem lq4 (L:List (List Int)) (q:Nat):(L.take q).flatten.length<=L.flatten.length:=by
 have:L.flatten=(L.take q).flatten++(L.drop q).flatten:=by rw [<-List.flatten_append,List.take_append_drop]
 rw [this,List.length_append];omega
set_option maxRecDepth 20000 in
theorem concat_use {L:List (List Int)} (hn:L.flatten.length<=1000000) (hL:L.length<=1000) (hp:0<L.length) {H:Heap} {K:AV->Heap->Prop} (k0:L.flatten.length=0->K (.sl [] 0) H)
  (k:0<L.flatten.length->∀ r,H r=none->K (.ref r 0 L.flatten.length L.flatten.length) (upd H r (some (.arr 1 3 (L.flatten.map I) L.flatten.length)))):aqo Tryz.prog w0 72 [rows L] H K:=by
 obtain ⟨n,hnn⟩:∃ n,L.flatten.length=n:=⟨_,rfl⟩
 rw [hnn] at hn k k0
 refine aqf Tryz.func72 rfl Tryz.ntmps72 (ts:=[2]) rfl (by simp) (by kernel_rfl) ?_
 repeat'(with_reducible first|(refine aqd (hK _ _ ?_);clear hK K)|refine vr [] fun K hK=>?_|(refine aqa fun K' hK'=>?_;simp[rows];repeat'(first|(apply hK';clear hK' K')|fail))|refine sp ?_|fail)
 refine aqi (fun env h=>∃ q:Nat,q<=L.length/\env 11=I q/\env 10=I L.length/\env 9=rows L/\env 0=rows L/\env 3=I (L.take q).flatten.length/\h=H) (fun env _=>L.length-natA (env 11)) ?_ ?_
 ·exact ⟨0,by omega,by simp,by simp,by simp [rows],by simp [rows],by simp,rfl⟩
 rintro env h ⟨q,hq,h11,h10,h9,h0,h3,rfl⟩
 have hnat:natA (env 11)=q:=by simp [h11]
 rw [hnat];clear hnat
 by_cases g:q<L.length
 ·have hf:=jqc g
  have hle:=lq4 L (q+1)
  have hl2:=congrArg List.length hf
  rw [List.length_append] at hl2
  have hLq:∀ h:q<L.length,L[q]'h=L[q]'g:=fun _=>rfl
  generalize hm:(L.take q).flatten.length=m at *
  generalize hm':(L.take (q+1)).flatten.length=m' at *
  generalize L[q]=x at *
  repeat'(with_reducible first|(refine aqd (hK _ _ ?_);clear hK K)|refine vr [] fun K hK=>?_|((first|refine aqa fun K' hK'=>?_|refine aqb fun K' B hK' hB=>?_);simp[h11,h10,h9,h0,h3,rows,ints,g,hLq];repeat'(first|((first|refine hK' ?_|refine hB ?_);clear hK' hB K' B)|(apply hK';clear hK' K')|refine And.intro ?_ ?_|intro hg|(clear hK' K';omega)))|refine sp ?_|fail)
  all_goals try omega
  refine ⟨⟨q+1,by omega,by simp,by simp [h10],by simp [h9,rows],by simp [h0,rows],?_,rfl⟩,by simp;omega⟩
  rw [hm',hl2];simp
 obtain rfl:q=L.length:=by omega
 rw [List.take_length,hnn] at h3
 repeat'(with_reducible first|(refine aqd (hK _ _ ?_);clear hK K)|((fail_if_success(refine aql 9 ?_));(fail_if_success(refine(?_:AWP _ _ _ (Code.region 9 _ _) _ _ _)));refine vr [] fun K hK=>?_)|((first|refine aqa fun K' hK'=>?_|refine aqb fun K' B hK' hB=>?_);simp[h11,h10,h9,h0,h3,rows,ints,g];repeat'(first|((first|refine hK' ?_|refine hB ?_);clear hK' hB K' B)|(apply hK';clear hK' K')|fail))|((fail_if_success(refine aql 9 ?_));refine sp ?_)|fail)
 refine nqv (fun e h'=>e 0=rows L/\(n=0/\e 6= .sl [] 0/\h'=h\/0<n/\∃ r,h r=none/\e 6= .ref r 0 0 n/\h'=upd h r (some (.arr 1 3 (List.replicate n (I 0)) n)))) ?_ ?_
 ·refine awp_hand1 ?_
  refine gqe [] rfl ?_
  simp [h3]
  refine ⟨rfl,ok_call_raw rfl ?_⟩
  simp [callK]
  refine grow_use hn (fun hn0=> ?_) fun hn0 r hr=> ?_
  ·refine gqe [] rfl ?_
   simp [OpsH,Then,h0,hn0]
  ·refine gqe [] rfl ?_
   simp [OpsH,Then,h0,hn0,hr]
   exact ⟨r,hr,rfl,rfl⟩
 clear h11 h10 h9 h0 h3 hq g env
 rintro env h' ⟨h0,hJ⟩
 repeat'(with_reducible first|(refine aqd (hK _ _ ?_);clear hK K)|((fail_if_success(refine aql 13 ?_));(fail_if_success(refine(?_:AWP _ _ _ (Code.region 13 _ _) _ _ _)));refine vr [] fun K hK=>?_)|(refine aqa fun K' hK'=>?_;simp[h0,rows];repeat'(first|(apply hK';clear hK' K')|fail))|((fail_if_success(refine aql 13 ?_));refine sp ?_)|fail)
 refine aqi (fun env h'=>∃ q:Nat,q<=L.length/\env 27=I q/\env 26=I L.length/\env 25=rows L/\((q=0\/n=0)/\(n=0/\env 6= .sl [] 0/\h'=h\/0<n/\∃ r,h r=none/\env 6= .ref r 0 0 n/\h'=upd h r (some (.arr 1 3 (List.replicate n (I 0)) n)))\/(0<q/\0<n)/\∃ r,h r=none/\env 6= .ref r 0 (L.take q).flatten.length (L.take q).flatten.length/\h'=upd h r (some (.arr 1 3 ((L.take q).flatten.map I) (L.take q).flatten.length)))) (fun env _=>L.length-natA (env 27)) ?_ ?_
 ·refine ⟨0,by omega,by simp,by simp,by simp [h0,rows],.inl ⟨.inl rfl,?_⟩⟩
  simpa using hJ
 clear hJ h0 h' env
 rintro env h' ⟨q,hq,h27,h26,h25,hJ⟩
 have hnat:natA (env 27)=q:=by simp [h27]
 rw [hnat];clear hnat
 by_cases g:q<L.length
 ·have hf:=jqc g
  have hle:=lq4 L (q+1)
  have hl2:=congrArg List.length hf
  rw [List.length_append] at hl2
  have hLq:∀ h:q<L.length,L[q]'h=L[q]'g:=fun _=>rfl
  generalize L[q]=x at *
  rcases hJ with ⟨hq0,⟨hn0,h6,rfl⟩ | ⟨hn0,r,hr,h6,rfl⟩⟩ | ⟨hq0,r,hr,h6,rfl⟩
  ·obtain rfl:x=[]:=List.eq_nil_of_length_eq_zero (by omega)
   repeat'(with_reducible first|(refine aqd (hK _ _ ?_);clear hK K)|((fail_if_success(refine aql 13 ?_));(fail_if_success(refine(?_:AWP _ _ _ (Code.region 13 _ _) _ _ _)));refine vr [] fun K hK=>?_)|((first|refine aqa fun K' hK'=>?_|refine aqb fun K' B hK' hB=>?_);simp[h27,h26,h25,h6,rows,ints,g,hLq];repeat'(first|((first|refine hK' ?_|refine hB ?_);clear hK' hB K' B)|(apply hK';clear hK' K')|fail))|((fail_if_success(refine aql 13 ?_));refine sp ?_)|fail)
   refine awp_hand1 ?_
   refine gqe [] rfl ?_
   simp [h6]
   refine gqe [] rfl ?_
   simp
   refine ⟨rfl,kq6 (e:=3) (e2:=3) rfl (by simp) (by simp) (by simp) (by simp [h6]) (by simp) ?_⟩
   refine ⟨by decide,?_⟩
   refine gqe [] rfl ?_
   simp [OpsH]
   repeat'(with_reducible first|(refine aqd (hK _ _ ?_);clear hK K)|refine vr [] fun K hK=>?_|(refine aqa fun K' hK'=>?_;simp[h27,h26,h25,h6,rows,ints,g,hLq];repeat'(first|(apply hK';clear hK' K')|refine And.intro ?_ ?_|(clear hK' K';omega)))|refine sp ?_|fail)
   exact ⟨⟨q+1,by omega,by simp,by simp [h26],by simp [h25,rows],.inl ⟨.inr hn0,.inl ⟨hn0,by simp,rfl⟩⟩⟩,by simp;omega⟩
  ·have hq0':q=0:=by omega
   subst hq0'
   have hn1:¬0=n:=by omega
   have hx1:x.length<=1000000:=by omega
   repeat'(with_reducible first|(refine aqd (hK _ _ ?_);clear hK K)|refine vr [] fun K hK=>?_|((first|refine aqa fun K' hK'=>?_|refine aqb fun K' B hK' hB=>?_);simp[h27,h26,h25,h6,rows,ints,g,hLq,hn0,hn1];repeat'(first|((first|refine hK' ?_|refine hB ?_);clear hK' hB K' B)|(apply hK';clear hK' K')|refine And.intro ?_ ?_|intro hg|(clear hK' K';omega)))|refine sp ?_|fail)
   all_goals try omega
   rename_i r'
   have hrr:r'≠r:=by rintro rfl;simp at hg
   have hr':h r'=none:=by rw [if_neg hrr] at hg;exact hg
   clear hg
   try rw [aq7 hr]
   refine ⟨⟨1,by omega,by simp,by simp [h26],by simp [h25,rows],.inr ⟨⟨by omega,by omega⟩,r',hr',?_,?_⟩⟩,by simp;omega⟩
   ·simp [hf]
   ·simp [hf]
  ·have hx1:x.length<=1000000:=by omega
   generalize hy:(L.take q).flatten=y at *
   generalize hz:(L.take (q+1)).flatten=z at *
   have hy1:y.length<=1000000:=by omega
   repeat'(with_reducible first|(refine aqd (hK _ _ ?_);clear hK K)|refine vr [] fun K hK=>?_|((first|refine aqa fun K' hK'=>?_|refine aqb fun K' B hK' hB=>?_);simp[h27,h26,h25,h6,rows,ints,g,hLq];repeat'(first|((first|refine hK' ?_|refine hB ?_);clear hK' hB K' B)|(apply hK';clear hK' K')|refine And.intro ?_ ?_|(clear hK' K';omega)))|refine sp ?_|fail)
   all_goals try omega
   refine ⟨⟨q+1,by omega,by simp,by simp [h26],by simp [h25,rows],.inr ⟨⟨by omega,by omega⟩,r,hr,?_,?_⟩⟩,by simp;omega⟩
   ·rw [hz,hf];simp
   ·rw [hz,hf];simp [aqx]
 ·obtain rfl:q=L.length:=by omega
  rw [List.take_length,hnn] at hJ
  rcases hJ with ⟨hq0,⟨hn0,h6,rfl⟩ | ⟨hn0,r,hr,h6,rfl⟩⟩ | ⟨_,r,hr,h6,rfl⟩
  ·have hk:=k0 hn0
   repeat'(with_reducible first|(refine aqd (hK _ _ ?_);clear hK K)|refine vr [] fun K hK=>?_|((first|refine aqa fun K' hK'=>?_|refine aqb fun K' B hK' hB=>?_);simp[h27,h26,h25,h6,rows,ints,g];repeat'(first|((first|refine hK' ?_|refine hB ?_);clear hK' hB K' B)|(apply hK';clear hK' K')|fail))|apply aqc|refine sp ?_|fail)
   simpa [resA] using hk
  ·omega
  ·have hk:=k (by omega) r hr
   generalize L.flatten=Y at *
   repeat'(with_reducible first|(refine aqd (hK _ _ ?_);clear hK K)|refine vr [] fun K hK=>?_|((first|refine aqa fun K' hK'=>?_|refine aqb fun K' B hK' hB=>?_);simp[h27,h26,h25,h6,rows,ints,g];repeat'(first|((first|refine hK' ?_|refine hB ?_);clear hK' hB K' B)|(apply hK';clear hK' K')|fail))|apply aqc|refine sp ?_|fail)
   simpa [resA] using hk
theorem sortI_fs {l:List Int} {F:FS} (hn:l.Nodup) (h:∀ x,x∈l↔x∈F):dqd l=F.l:=by
 have h1:(dqd l).Pairwise (fun x y=>decide (x<=y)=true):=List.pairwise_mergeSort (le:=fun x y:Int=>decide (x<=y)) (fun a b c h1 h2=>by simp at *;omega) (fun a b=>by simp;omega) l
 have hp:(dqd l).Perm l:=List.mergeSort_perm l _
 have h2:(dqd l).Nodup:=hp.nodup_iff.2 hn
 refine cqu ?_ F.up fun x=>by rw [hp.mem_iff,h];exact Iff.rfl
 refine (h1.and h2).imp fun ⟨a,b⟩=> ?_
 simp only [decide_eq_true_eq] at a
 omega
theorem TurnP_ret {s path:List Int} (hs:s.length<=400000) (hp:path.length<=400000):Ret Tryz.prog w0 27 [ints s,ints path] (ints (turnR s path)):=by
 have c1:=set_sort_ret (w0:=w0) (l:=path) (by omega)
 have c2:=dqj (w0:=w0) (l:=s) (by omega)
 have hps:=dqr path
 rw [turnR]
 intro H
 cases hr:aqw (-1) s with
 | false=>
  rw [hr] at c2
  refine aqf Tryz.func27 rfl Tryz.ntmps27 (ts:=[4]) rfl (by simp) (by kernel_rfl) ?_
  repeat'(with_reducible first|(refine aqd (hK _ _ ?_);clear hK K)|refine vr [] fun K hK=>?_|((first|refine aqa fun K' hK'=>?_|refine aqb fun K' B hK' hB=>?_|(apply aqk;refine aqe rfl fun K' hK'=>?_));simp;repeat'(first|((first|refine hK' ?_|refine hB ?_);clear hK' hB K' B)|(apply hK';clear hK' K')|refine Ret.use c1 ?_|refine Ret.use c2 ?_|fail))|apply aqc|refine sp ?_|fail)
  exact ⟨by simp [ints],.refl _⟩
 | true=>
  rw [hr] at c2
  have hss:=aqs.1 hr
  obtain ⟨p,hpe⟩:∃ p,cq3 path=p:=⟨_,rfl⟩
  rw [hpe] at hps c1 ⊢
  by_cases g:p.length=path.length
  ·have hpl:p.length<=400000:=by omega
   have hsame:∀ x,x∈p↔x∈path:=fun x=>by
    constructor
    ·intro h;exact ((hps.2 x).1 h).1
    ·intro h
     by_cases hx:x∈p
     ·exact hx
     ·exfalso
      have h1:(x::p).length<=path.length:=bq3 (x::p) path (List.nodup_cons.2 ⟨hx,hps.1.nodup⟩) fun y hy=>by
       rcases List.mem_cons.1 hy with rfl | hy
       ·exact h
       ·exact ((hps.2 y).1 hy).1
      simp at h1;omega
   obtain ⟨A,hA⟩:∃ A:FS,s=A.l:=⟨⟨s,hss.up⟩,rfl⟩
   obtain ⟨Q,hQ⟩:∃ Q:FS,p=Q.l:=⟨⟨p,hps.1.up⟩,rfl⟩
   have hQe:FS.ofList path=Q:=FS.ext fun x=>by rw [FS.mem_ofList,<-hsame,hQ];exact Iff.rfl
   have hg:decide (p.length=path.length)=true:=decide_eq_true g
   subst hA
   rw [hg,hQe,cqn,Bool.true_and,if_pos rfl]
   subst hQ
   have hB:meetL A.l Q.l=(A∩Q).l:=by
    rw [meetL_eq hss hps.1]
    refine cqu (A.up.filter _) (A∩Q).up fun x=> ?_
    simp only [List.mem_filter,decide_eq_true_eq,bqa,FS.mem_inter]
   have iB:aq3 (A∩Q).l:=⟨(A∩Q).up,fun x hx=>hss.ok x (FS.mem_inter.1 (bqa.1 hx)).1⟩
   have c3:=meet_ret (w0:=w0) (a:=A.l) (b:=Q.l) (by omega) (by omega)
   rw [hB] at c3
   have lB:(A∩Q).l.length<=A.l.length:=FS.card_le fun x hx=>(FS.mem_inter.1 hx).1
   have c4:=dqg (w0:=w0) (a:=A.l) (b:=(A∩Q).l) (by omega) (by omega)
   have c5:=dqg (w0:=w0) (a:=Q.l) (b:=(A∩Q).l) (by omega) (by omega)
   rw [equ hss iB,fq2] at c4
   rw [equ hps.1 iB,fq2] at c5
   have e1:A \ (A∩Q)=A \ Q:=FS.ext fun x=>by grind
   have e2:Q \ (A∩Q)=Q \ A:=FS.ext fun x=>by grind
   rw [e1] at c4
   rw [e2] at c5
   have l1:(A \ Q).l.length<=A.l.length:=FS.card_le fun x hx=>(FS.mem_sdiff.1 hx).1
   have l2:(Q \ A).l.length<=Q.l.length:=FS.card_le fun x hx=>(FS.mem_sdiff.1 hx).1
   have hfl:[(A \ Q).l,(Q \ A).l].flatten=(A \ Q).l++(Q \ A).l:=by simp
   have hsort:dqd ((A \ Q).l++(Q \ A).l)=(A \ Q∪(Q \ A)).l:=sortI_fs (by
    rw [List.nodup_append]
    refine ⟨(A \ Q).nodup,(Q \ A).nodup,fun a ha b hb e=> ?_⟩
    have:=FS.mem_sdiff.1 (bqa.1 ha)
    have:=FS.mem_sdiff.1 (bqa.1 hb)
    grind) fun x=>by rw [List.mem_append,bqa,bqa,FS.mem_union]
   have hlen:((A \ Q).l++(Q \ A).l).length<=1000000:=by rw [List.length_append];omega
   have g':((Q.l.length:Int)=path.length)=True:=eq_true (by omega)
   have cc:=fun {K:AV->Heap->Prop}=>concat_use (w0:=w0) (L:=[(A \ Q).l,(Q \ A).l]) (by rw [hfl];exact hlen) (by simp) (by simp) (H:=H) (K:=K)
   rw [hfl] at cc
   generalize hD:(A \ Q).l++(Q \ A).l=D at *
   generalize (A \ Q).l=D1 at *
   generalize (Q \ A).l=D2 at *
   generalize (A \ Q∪(Q \ A)).l=R at *
   generalize (A∩Q).l=D3 at *
   simp only [rows,List.map_cons,List.map_nil,List.length_cons,List.length_nil,Nat.zero_add,Nat.reduceAdd] at cc
   simp only [ints] at c1 c2 c3 c4 c5 cc ⊢
   refine aqf Tryz.func27 rfl Tryz.ntmps27 (ts:=[4]) rfl (by simp) (by kernel_rfl) ?_ |>cq4
   repeat'(first|(with_reducible (refine aqd (hK _ _ ?_);clear hK K))|(with_reducible refine vr [] fun K hK=>?_)|((with_reducible first|refine aqa fun K' hK'=>?_|refine aqb fun K' B hK' hB=>?_|(apply aqk;refine aqe rfl fun K' hK'=>?_));simp[g'];repeat'(first|(with_reducible first|((first|refine hK' ?_|refine hB ?_);clear hK' hB K' B)|(apply hK';clear hK' K')|refine Ret.use c1 ?_|refine Ret.use c2 ?_|refine Ret.use c3 ?_|refine Ret.use c4 ?_|refine Ret.use c5 ?_)|((with_reducible refine cc (fun h0=> ?_) (fun h0 r hr=> ?_));try simp[g'])|fail))|(with_reducible refine sp ?_)|fail)
   ·have hD0:D=[]:=List.eq_nil_of_length_eq_zero h0
    with_reducible refine Ret.use kqb ?_
    with_reducible refine hK' _ _ ?_
    clear hK' K'
    repeat'(with_reducible first|(refine aqd (hK _ _ ?_);clear hK K)|refine vr [] fun K hK=>?_|(refine aqa fun K' hK'=>?_;simp;repeat'(first|(apply hK';clear hK' K')|fail))|apply aqc|refine sp ?_|fail)
    refine .inl ⟨?_,.refl _⟩
    rw [<-hsort,hD0];simp [dqd]
   ·with_reducible refine sort_use (c:=D) rfl (Nat.le_refl _) h0 (by omega) (fun s hs hst=> ?_)
    with_reducible refine hK' _ _ ?_
    clear hK' K'
    rw [List.take_of_length_le (by omega),List.take_of_length_le (Nat.le_refl _),hsort] at hst
    subst hst
    repeat'(with_reducible first|(refine aqd (hK _ _ ?_);clear hK K)|refine vr [] fun K hK=>?_|(refine aqa fun K' hK'=>?_;simp;repeat'(first|(apply hK';clear hK' K')|fail))|apply aqc|refine sp ?_|fail)
    refine .inr ⟨r,0,D.length,D.length,1,3,s.map I,by simp,aqj _ _ _,?_,by rw [aqx];exact aqh hr⟩
    rw [<-hs]
    exact bqw _ _
  ·have hg:decide (p.length=path.length)=false:=decide_eq_false g
   rw [hg]
   have g':((p.length:Int)=path.length)=False:=eq_false (by omega)
   simp only [ints] at c1 c2 ⊢
   refine aqf Tryz.func27 rfl Tryz.ntmps27 (ts:=[4]) rfl (by simp) (by kernel_rfl) ?_
   repeat'(with_reducible first|(refine aqd (hK _ _ ?_);clear hK K)|refine vr [] fun K hK=>?_|((first|refine aqa fun K' hK'=>?_|refine aqb fun K' B hK' hB=>?_|(apply aqk;refine aqe rfl fun K' hK'=>?_));simp[g'];repeat'(first|((first|refine hK' ?_|refine hB ?_);clear hK' hB K' B)|(apply hK';clear hK' K')|refine Ret.use c1 ?_|refine Ret.use c2 ?_|fail))|apply aqc|refine sp ?_|fail)
   exact ⟨by simp,.refl _⟩
def uni (n a:Int):Mtd:= .mk 0 n a 0 [] []
theorem uni_nice (n a:Int):Nice (uni n a):= .mk (by simp) (by simp) (by simp) (by omega) (by simp)
section
variable {n a:Int}
theorem uni_n:(uni n a).n=n:=rfl
theorem uni_ok (h0:0<=a) (h1:a<=n) (h2:n<=64):OkT (uni n a):=by
 refine ⟨uni_nice n a,?_,?_⟩
 ·have e1:0<=n:=by omega
  have e2:a<=64:=by omega
  simp [uni,mayT,bqz,h0,h1,h2,e1,e2]
 ·simp [uni,bqm]
theorem uni_rk {s:FS}:rkM (uni n a) s=min (s∩FS.upTo n.toNat).card a.toNat:=by
 simp [uni,rkM]
theorem uni_ind {s:FS} (hs:s⊆FS.upTo n.toNat):Rk.Ind (rkM (uni n a)) s↔s.card<=a.toNat:=by
 rw [Rk.Ind,uni_rk,show s∩FS.upTo n.toNat=s from FS.ext fun x=>by have:=hs x;grind]
 omega
end
def mtZ (n a:Int):AV:= .agg [I 0,I n,I a,I 0,.sc (.slice none 0 0),.sc (.slice none 0 0)]
theorem Wks.agg {c c':List AV} (hl:c'.length=c.length) (h:∀ (i:Nat) (a b:AV),c[i]? =some a->c'[i]? =some b->Wks a b/\b.one=true):Wks (.agg c) (.agg c'):=by
 intro F M cv hv
 cases hv with
 | agg f hs h1 h2 ho=>
  refine .agg f (by rw [hl];exact hs) (fun i b hb=> ?_) (fun i b hb=> ?_) (fun i b hb=> ?_)
  ·have hi:i<c.length:=by rw [<-hl];exact (List.getElem?_eq_some_iff.1 hb).1
   exact h1 i c[i] (by simp [hi])
  ·have hi:i<c.length:=by rw [<-hl];exact (List.getElem?_eq_some_iff.1 hb).1
   exact (h i c[i] b (by simp [hi]) hb).1 _ _ _ (h2 i c[i] (by simp [hi]))
  ·have hi:i<c.length:=by rw [<-hl];exact (List.getElem?_eq_some_iff.1 hb).1
   exact (h i c[i] b (by simp [hi]) hb).2
theorem jqz (n a:Int):Wks (mtZ n a) (mtA (uni n a)):=by
 refine Wks.agg rfl fun i x y h1 h2=> ?_
 match i with
 | 0 | 1 | 2 | 3=>simp [mtC,uni] at h1 h2;subst h1;subst h2;exact ⟨Wks.refl _,rfl⟩
 | 4 | 5=>simp [mtC,uni,mtCs,rows] at h1 h2;subst h1;subst h2;exact ⟨Wks.nil,rfl⟩
 | i+6=>simp at h1
theorem Ret.wks {P:Program} {f:FuncId} {args args':List AV} {x:AV} (h:Ret P w0 f args' x) (hl:args'.length=args.length) (hw:∀ (i:Nat) (a b:AV),args[i]? =some a->args'[i]? =some b->Wks a b):Ret P w0 f args x:=fun H=>aqo.wks hl hw (h H)
theorem hqe {n a:Int} {S:FS} (hS:S⊆FS.upTo n.toNat):bqj (uni n a) S=(upto n.toNat).filter fun x=> !decide (x∈S)&&decide ((insert x S:FS).card<=a.toNat):=by
 rw [bqj,uni_n]
 refine List.filter_congr fun x hx=> ?_
 congr 1
 rw [decide_eq_decide,uni_ind fun z hz=> ?_]
 rcases FS.mem_insert.1 hz with rfl | hz
 ·rw [FS.mem_upTo];exact aqq.1 hx
 ·exact hS z hz
theorem uni_st {n a:Int} {S:FS} (hS:S⊆FS.upTo n.toNat) {x y:Int} (hx:x∈upto n.toNat):stB (uni n a) S x y=(decide (y∈S)&& !decide (x∈S)&&decide ((insert x (S.erase y):FS).card<=a.toNat)):=by
 rw [stB]
 congr 1
 rw [decide_eq_decide,uni_ind fun z hz=> ?_]
 rcases FS.mem_insert.1 hz with rfl | hz
 ·rw [FS.mem_upTo];exact aqq.1 hx
 ·exact hS z (FS.mem_erase.1 hz).1
theorem uni_adj {n a a':Int} {S:FS} (hS:S⊆FS.upTo n.toNat):adjS (uni n a) (uni n a') S=(upto n.toNat).map fun p=>(upto n.toNat).filter fun q=>(decide (p∈S)&& !decide (q∈S)&&decide ((insert q (S.erase p):FS).card<=a.toNat))||(decide (q∈S)&& !decide (p∈S)&&decide ((insert p (S.erase q):FS).card<=a'.toNat)):=by
 rw [adjS,uni_n]
 refine List.map_congr_left fun p hp=>List.filter_congr fun q hq=> ?_
 rw [uni_st hS hq,uni_st hS hp]
theorem Ret.uni3 {P:Program} {f:FuncId} {n a n' a':Int} {x r:AV} (h:Ret P w0 f [mtA (uni n a),mtA (uni n' a'),x] r):Ret P w0 f [mtZ n a,mtZ n' a',x] r:=
 h.wks rfl fun i u v h1 h2=>by
  match i with
  | 0=>simp at h1 h2;subst h1;subst h2;exact jqz _ _
  | 1=>simp at h1 h2;subst h1;subst h2;exact jqz _ _
  | 2=>simp at h1 h2;subst h1;subst h2;exact Wks.refl _
  | i+3=>simp at h1
abbrev fS (l:List Int):FS:=FS.ofList l
theorem sortR_len {p:List Int} (hn:p.Nodup) (hr:∀ x∈p,0<=x/\x<=1099511627776):(cq3 p).length=p.length:=by
 have hs:=dqr p
 have h1:=bq3 (cq3 p) p hs.1.nodup fun x hx=>((hs.2 x).1 hx).1
 have h2:=bq3 p (cq3 p) hn fun x hx=>(hs.2 x).2 ⟨hx,hr x hx⟩
 omega
theorem turnR_eq {S:FS} {p:List Int} (hS:aq3 S.l) (hn:p.Nodup) (hr:∀ x∈p,0<=x/\x<=1099511627776):turnR S.l p=(eqg S p).l:=by
 rw [turnR,aqs.2 hS,sortR_len hn hr,cqn,eqg]
 simp
section
variable {x y:Mtd} {S:FS} (C:Com x y S)
include C
theorem Com.set:aq3 S.l:=cqg C.sub (by have:=C.n64;omega)
theorem Com.slen:S.l.length<=64:=by have:=bqt C.sub;have:=C.n64;omega
theorem Com.alen:((adjS x y S).length:Int)=x.n:=by have:=eqe C;have:=C.n64;omega
theorem Com.arow:∀ r∈adjS x y S,r.length<=4096:=fun r hr=>by
 have:=((nqz C).pts r hr).length
 have:=eqe C;have:=C.n64;omega
theorem Com.fr:(bqj x S).length<=64:=by have:=(iqg (S:=S) C.n64).length;have:=C.n64;omega
theorem Com.to:(bqj y S).length<=64:=by have:=(iqg (S:=S) C.swap.n64).length;have:=C.swap.n64;omega
end
end Go.Am
namespace Go.Am
open Go Go.Proofs FS
set_option linter.unusedVariables false
set_option linter.unusedSimpArgs false
theorem way_iff {adj:List (List Int)} (hG:Gr adj) {fr to:List Int} (hf:Pts adj.length fr) (ht:Pts adj.length to):(jqj adj fr to).2=true↔∃ x∈levL adj fr adj.length,x∈to:=by
 rw [meets_iff hG ht hf]
 rcases lql hG ht hf with ⟨h1,h2⟩ | ⟨v,k,hv,hd,h1,h2⟩
 ·rw [h1]
  constructor
  ·intro h;cases h
  ·rintro ⟨v,hv,h⟩;exact absurd (h2 v hv) h
 ·rw [h1]
  simp only [true_iff]
  exact ⟨v,hv,by omega⟩
noncomputable def wayF (a b:Mtd) (S:FS):List Int×Bool:=jqj (adjS a b S) (bqj a S) (bqj b S)
noncomputable def maxF (a b:Mtd):Nat->FS->FS
 | 0,S=>S
 | k+1,S=>if (wayF a b S).2 then maxF a b k (eqg S (wayF a b S).1) else S
noncomputable def uF (a b:Mtd) (S:FS):FS:=FS.upTo a.n.toNat \ FS.ofList (levL (adjS a b S) (bqj a S) (adjS a b S).length)
structure MaxC (a b:Mtd) (S:FS):Prop where
 com:Com a b S
 no:(wayF a b S).2=false
section
variable {a b:Mtd} {S T:FS}
theorem Com.card_le (h:Com a b S):S.card<=a.n.toNat:=by
 have:=FS.card_le h.sub
 rwa [FS.card_upTo] at this
theorem way_pair (h:(wayF a b S).2=true):jqj (adjS a b S) (bqj a S) (bqj b S)=((wayF a b S).1,true):=Prod.ext rfl h
theorem Com.grow (h:Com a b S) (hw:(wayF a b S).2=true):Com a b (eqg S (wayF a b S).1)/\(eqg S (wayF a b S).1).card=S.card+1/\(wayF a b S).1.Nodup/\∀ x∈(wayF a b S).1,0<=x/\x<a.n:=
 com_aug h (way_pair hw)
theorem maxF_max:∀ (k:Nat) (S:FS),Com a b S->a.n.toNat<S.card+k->MaxC a b (maxF a b k S):=by
 intro k
 induction k with
 | zero=>intro S h hk;have:=h.card_le;omega
 | succ k ih=>
  intro S h hk
  rw [maxF]
  by_cases hw:(wayF a b S).2=true
  ·rw [if_pos hw]
   obtain ⟨g1,g2,_⟩:=h.grow hw
   exact ih _ g1 (by omega)
  ·rw [if_neg hw]
   exact ⟨h,by simpa using hw⟩
theorem maxF_grow (h:Com a b S) (hw:(wayF a b S).2=true):maxF a b (a.n.toNat+1-S.card) S=maxF a b (a.n.toNat+1-(eqg S (wayF a b S).1).card) (eqg S (wayF a b S).1):=by
 obtain ⟨g1,g2,_⟩:=h.grow hw
 have:=g1.card_le
 rw [show a.n.toNat+1-S.card=(a.n.toNat+1-(eqg S (wayF a b S).1).card)+1 by omega,maxF,if_pos hw]
theorem maxF_end (hw:(wayF a b S).2=false):∀ k,maxF a b k S=S
 | 0=>rfl
 | k+1=>by rw [maxF,if_neg (by simp [hw])]
noncomputable def maxS (a b:Mtd):FS:=maxF a b (a.n.toNat+1) ∅
theorem kqv (ha:OkT a) (hb:OkT b) (hn:a.n=b.n):Com a b ∅ :=
 ⟨ha,hb,hn,fun x hx=>absurd hx (by simp),ha.rk.ind_empty,hb.rk.ind_empty⟩
theorem dqp (ha:OkT a) (hb:OkT b) (hn:a.n=b.n):MaxC a b (maxS a b):=maxF_max _ _ (kqv ha hb hn) (by omega)
theorem uF_sub:uF a b S⊆FS.upTo a.n.toNat:=fun x hx=>(FS.mem_sdiff.1 hx).1
theorem MaxC.bound (h:MaxC a b S):rkM a (uF a b S)+rkM b (FS.upTo a.n.toNat \ uF a b S)=S.card:=by
 have C:=h.com
 have A:=fq8 C
 have hl:=eqe C
 have hlev:=eqm A.gr A.pf (adjS a b S).length
 have hw:=h.no
 have key:=com_stuck C fun x h1 h2=>by
  have:=(way_iff A.gr A.pf A.pt).2 ⟨x,h1,h2⟩
  rw [wayF] at hw
  rw [hw] at this
  cases this
 unfold uF
 generalize levL (adjS a b S) (bqj a S) (adjS a b S).length=L at *
 rw [show (FS.upTo a.n.toNat \ (FS.upTo a.n.toNat \ FS.ofList L):FS)=FS.ofList L from FS.ext fun x=> ?_]
 ·exact key
 ·rw [FS.mem_sdiff,FS.mem_sdiff,FS.mem_upTo,FS.mem_ofList]
  constructor
  ·rintro ⟨k1,k2⟩
   by_cases hx:x∈L
   ·exact hx
   ·exact absurd ⟨k1,hx⟩ k2
  ·intro hx
   have:=hlev.lt x hx
   exact ⟨by omega,fun k=>k.2 hx⟩
theorem MaxC.best (h:MaxC a b S) {T:FS} (hT:Com a b T):T.card<=S.card:=by
 have hb:=h.bound
 generalize uF a b S=U at hb
 have r1:=hT.r1
 have r2:=hT.r2
 have k1:(T∩U).card<=rkM a U:=by
  have i:=r1.ind_sub hT.i1 (a:=T∩U) fun x hx=>(FS.mem_inter.1 hx).1
  have:=r1.mono (a:=T∩U) (b:=U) fun x hx=>(FS.mem_inter.1 hx).2
  unfold Rk.Ind at i
  omega
 have k2:(T \ U).card<=rkM b (FS.upTo a.n.toNat \ U):=by
  have i:=r2.ind_sub hT.i2 (a:=T \ U) fun x hx=>(FS.mem_sdiff.1 hx).1
  have:=r2.mono (a:=T \ U) (b:=FS.upTo a.n.toNat \ U) fun x hx=>FS.mem_sdiff.2 ⟨hT.sub x (FS.mem_sdiff.1 hx).1,(FS.mem_sdiff.1 hx).2⟩
  unfold Rk.Ind at i
  omega
 have:=FS.card_sdiff T U
 omega
theorem MaxC.same (h:MaxC a b S) (h':MaxC b a T):S.card=T.card:=Nat.le_antisymm (h'.best h.com.swap) (h.best h'.com.swap)
theorem MaxC.rank (h:MaxC a b S) (hf:∀ s:FS,s⊆FS.upTo a.n.toNat->Rk.Ind (rkM a) s->Rk.Ind (rkM b) s):S.card=rkM a (FS.upTo a.n.toNat):=by
 have C:=h.com
 have r1:=C.r1
 obtain ⟨B,hB,hBE,hBc,_⟩:=r1.exists_base (FS.upTo a.n.toNat)
 have h1:=h.best (T:=B) ⟨C.oa,C.ob,C.nn,hBE,hB,hf B hBE hB⟩
 have h2:=r1.mono C.sub
 have h3:=C.i1
 unfold Rk.Ind at h3
 omega
end
end Go.Am
namespace Go.Am
open Go Go.Proofs
set_option linter.unusedVariables false
set_option linter.unusedSimpArgs false
variable {w0:World}
attribute [local irreducible] AWP aqo
attribute [local congr] aqp
theorem cq1 {H:Heap} {p q:Nat} {k:Blk} (hp:H p=none) (hq:(if q=p then some k else H q)=none):q≠p/\p≠q/\∀ k',Sub H (upd (upd H p (some k)) q (some k')):=by
 obtain ⟨h1,h2⟩:=gqd hq
 exact ⟨h1,Ne.symm h1,fun k'=>((Sub.refl H).upd hp _).upd h2 _⟩
theorem jqs {x y:Mtd} (hx:OkT x) (hy:OkT y):Ret Tryz.prog w0 81 [mtA x,mtA y] (B (decide (x.n=y.n))):=by
 have c1:=gqh (w0:=w0) hx
 have c2:=gqh (w0:=w0) hy
 intro H
 obtain ⟨t,n,a,b,l,xs⟩:=x
 obtain ⟨t',n',a',b',l',xs'⟩:=y
 have e1:(Mtd.mk t n a b l xs).n=n:=rfl
 have e2:(Mtd.mk t' n' a' b' l' xs').n=n':=rfl
 rw [e1,e2]
 simp only [mtA,mtC] at c1 c2 ⊢
 refine aqf Tryz.func81 rfl Tryz.ntmps81 (ts:=[4]) rfl (by simp) (by kernel_rfl) ?_
 repeat'(with_reducible first|(refine aqd (hK _ _ ?_);clear hK K)|((fail_if_success(refine aql 1 ?_));(fail_if_success(refine(?_:AWP _ _ _ (Code.region 1 _ _) _ _ _)));refine vr [] fun K hK=>?_)|(refine aqa fun K' hK'=>?_;simp;repeat'(first|(apply hK';clear hK' K')|intro hg|fail))|fail)
 rename_i p hp q
 obtain ⟨hqp,hpq,hsub⟩:=cq1 hp hg
 by_cases g:n=n'
 ·have g':=eq_true g
  repeat'(with_reducible first|(refine aqd (hK _ _ ?_);clear hK K)|refine vr [] fun K hK=>?_|((first|refine aqa fun K' hK'=>?_|(apply aqk;refine aqe rfl fun K' hK'=>?_));simp[hqp,hpq,g'];repeat'(first|(apply hK';clear hK' K')|refine Ret.use c1 ?_|refine Ret.use c2 ?_|fail))|apply aqc|refine sp ?_|fail)
  exact ⟨by simp [g],hsub _⟩
 ·repeat'(with_reducible first|(refine aqd (hK _ _ ?_);clear hK K)|refine vr [] fun K hK=>?_|((first|refine aqa fun K' hK'=>?_|(apply aqk;refine aqe rfl fun K' hK'=>?_));simp[hqp,hpq,g];repeat'(first|(apply hK';clear hK' K')|fail))|apply aqc|refine sp ?_|fail)
  exact ⟨by simp [g],hsub _⟩
def mayX (a b:Mtd):Bool:=decide (eqc a=0)&&decide (eqc b=0)&&decide (a.n=b.n)
theorem mq6 {a b:Mtd} (ha:Nice a) (hb:Nice b):mayX a b=true↔OkT a/\OkT b/\a.n=b.n:=by
 rw [mayX,Bool.and_eq_true,Bool.and_eq_true,decide_eq_true_eq,decide_eq_true_eq,decide_eq_true_eq]
 exact ⟨fun h=>⟨OkT.of ha h.1.1,OkT.of hb h.1.2,h.2⟩,fun h=>⟨⟨h.1.check,h.2.1.check⟩,h.2.2⟩⟩
theorem kq1 {x y:Mtd} (hx:Nice x) (hy:Nice y):Ret Tryz.prog w0 45 [mtA x,mtA y] (B (mayX x y)):=by
 have c1:=eqz (w0:=w0) hx
 have c2:=eqz (w0:=w0) hy
 rw [mayX]
 generalize eqc x=u at *
 generalize eqc y=v at *
 intro H
 obtain ⟨t,n,a,b,l,xs⟩:=x
 obtain ⟨t',n',a',b',l',xs'⟩:=y
 have e1:(Mtd.mk t n a b l xs).n=n:=rfl
 have e2:(Mtd.mk t' n' a' b' l' xs').n=n':=rfl
 rw [e1,e2]
 simp only [mtA,mtC] at c1 c2 ⊢
 refine aqf Tryz.func45 rfl Tryz.ntmps45 (ts:=[4]) rfl (by simp) (by kernel_rfl) ?_
 repeat'(with_reducible first|(refine aqd (hK _ _ ?_);clear hK K)|((fail_if_success(refine aql 1 ?_));(fail_if_success(refine(?_:AWP _ _ _ (Code.region 1 _ _) _ _ _)));refine vr [] fun K hK=>?_)|(refine aqa fun K' hK'=>?_;simp;repeat'(first|(apply hK';clear hK' K')|intro hg|fail))|fail)
 rename_i p hp q
 obtain ⟨hqp,hpq,hsub⟩:=cq1 hp hg
 by_cases g1:u=0
 ·by_cases g2:v=0
  ·repeat'(with_reducible first|(refine aqd (hK _ _ ?_);clear hK K)|refine vr [] fun K hK=>?_|((first|refine aqa fun K' hK'=>?_|(apply aqk;refine aqe rfl fun K' hK'=>?_));simp[hqp,hpq,g1,g2];repeat'(first|(apply hK';clear hK' K')|refine Ret.use c1 ?_|refine Ret.use c2 ?_|fail))|apply aqc|refine sp ?_|fail)
   exact ⟨by simp [g1,g2],hsub _⟩
  ·repeat'(with_reducible first|(refine aqd (hK _ _ ?_);clear hK K)|refine vr [] fun K hK=>?_|((first|refine aqa fun K' hK'=>?_|(apply aqk;refine aqe rfl fun K' hK'=>?_));simp[hqp,hpq,g1,g2];repeat'(first|(apply hK';clear hK' K')|refine Ret.use c1 ?_|refine Ret.use c2 ?_|fail))|apply aqc|refine sp ?_|fail)
   exact ⟨by simp [g1,g2],hsub _⟩
 ·repeat'(with_reducible first|(refine aqd (hK _ _ ?_);clear hK K)|refine vr [] fun K hK=>?_|((first|refine aqa fun K' hK'=>?_|(apply aqk;refine aqe rfl fun K' hK'=>?_));simp[hqp,hpq,g1];repeat'(first|(apply hK';clear hK' K')|refine Ret.use c1 ?_|fail))|apply aqc|refine sp ?_|fail)
  exact ⟨by simp [g1],hsub _⟩
theorem jqf {x y:Mtd} (hx:Nice x) (hy:Nice y) {s:List Int} (hs:aqz s):Ret Tryz.prog w0 46 [mtA x,mtA y,ints s] (B (indT x s&&indT y s)):=by
 have c1:=kq2 (w0:=w0) hx hs
 have c2:=kq2 (w0:=w0) hy hs
 generalize indT x s=v1 at *
 generalize indT y s=v2 at *
 intro H
 obtain ⟨t,n,a,b,l,xs⟩:=x
 obtain ⟨t',n',a',b',l',xs'⟩:=y
 simp only [mtA,mtC] at c1 c2 ⊢
 refine aqf Tryz.func46 rfl Tryz.ntmps46 (ts:=[6]) rfl (by simp) (by kernel_rfl) ?_
 repeat'(with_reducible first|(refine aqd (hK _ _ ?_);clear hK K)|((fail_if_success(refine aql 1 ?_));(fail_if_success(refine(?_:AWP _ _ _ (Code.region 1 _ _) _ _ _)));refine vr [] fun K hK=>?_)|(refine aqa fun K' hK'=>?_;simp;repeat'(first|(apply hK';clear hK' K')|intro hg|fail))|fail)
 rename_i p hp q
 obtain ⟨hqp,hpq,hsub⟩:=cq1 hp hg
 cases v1 with
 | true=>
  repeat'(with_reducible first|(refine aqd (hK _ _ ?_);clear hK K)|refine vr [] fun K hK=>?_|((first|refine aqa fun K' hK'=>?_|(apply aqk;refine aqe rfl fun K' hK'=>?_));simp[hqp,hpq];repeat'(first|(apply hK';clear hK' K')|refine Ret.use c1 ?_|refine Ret.use c2 ?_|fail))|apply aqc|refine sp ?_|fail)
  exact ⟨by simp,hsub _⟩
 | false=>
  repeat'(with_reducible first|(refine aqd (hK _ _ ?_);clear hK K)|refine vr [] fun K hK=>?_|((first|refine aqa fun K' hK'=>?_|(apply aqk;refine aqe rfl fun K' hK'=>?_));simp[hqp,hpq];repeat'(first|(apply hK';clear hK' K')|refine Ret.use c1 ?_|fail))|apply aqc|refine sp ?_|fail)
  exact ⟨by simp,hsub _⟩
noncomputable def bndF (x y:Mtd) (U:FS):Nat:=rkM x U+rkM y (FS.upTo x.n.toNat \ U)
theorem fqm {m:Mtd} (h:OkT m) {S:FS} (hS:S⊆FS.upTo m.n.toNat):rankT m S.l=(rkM m S:Nat):=by
 rw [rankT,(dqn h.nice).2 ⟨h,_,rfl,hS⟩,if_pos rfl,cqn]
theorem up_set {n:Nat} (h:n<=1000):aq3 (FS.upTo n).l:=cqg (FS.sub_refl _) h
theorem Bound14_ret {x y:Mtd} (hx:OkT x) (hy:OkT y) (hn:x.n=y.n) {U:FS} (hU:U⊆FS.upTo x.n.toNat):Ret Tryz.prog w0 44 [mtA x,mtA y,ints U.l] (I (bndF x y U:Nat)):=by
 have n1:=bq1 hx.may
 have hUs:aq3 U.l:=cqg hU (by omega)
 have hUl:=bqt hU
 have hW:FS.upTo x.n.toNat \ U⊆FS.upTo y.n.toNat:=fun z hz=>by rw [<-hn];exact (FS.mem_sdiff.1 hz).1
 have hWl:=bqt hW
 have c1:=kq1 (w0:=w0) hx.nice hy.nice
 rw [(mq6 hx.nice hy.nice).2 ⟨hx,hy,hn⟩] at c1
 have c2:=jqp (w0:=w0) (l:=U.l) (n:=x.n) (by omega)
 have hpts:ptsB U.l x.n=true:=by
  have:=(dqn hx.nice).2 ⟨hx,_,rfl,hU⟩
  rw [setT,Bool.and_eq_true] at this
  exact this.2
 rw [hpts] at c2
 have c3:=iq3 (w0:=w0) hx.nice (s:=U.l) (by omega)
 rw [fqm hx hU] at c3
 have c4:Ret Tryz.prog w0 35 [I x.n] (ints (FS.upTo x.n.toNat).l):=by
  have:=jqu (w0:=w0) (n:=x.n)
  rwa [allL,if_pos (by omega)] at this
 have hul:(FS.upTo x.n.toNat).l.length=x.n.toNat:=FS.card_upTo _
 have c5:=gqb (w0:=w0) (a:=(FS.upTo x.n.toNat).l) (b:=U.l) (by omega) (by omega)
 rw [aqs.2 (up_set (by omega)),aqs.2 hUs,Bool.and_self,if_pos rfl,fq2] at c5
 have c6:=iq3 (w0:=w0) hy.nice (s:=(FS.upTo x.n.toNat \ U).l) (by omega)
 rw [fqm hy hW] at c6
 have h1:=hx.rk.le_card U
 have h2:=hy.rk.le_card (FS.upTo x.n.toNat \ U)
 have h1':rkM x U<=64:=by have:U.l.length=U.card:=rfl;omega
 have h2':rkM y (FS.upTo x.n.toNat \ U)<=64:=by have:(FS.upTo x.n.toNat \ U).l.length=(FS.upTo x.n.toNat \ U).card:=rfl;omega
 have hb:(bndF x y U:Int)=(rkM x U:Nat)+(rkM y (FS.upTo x.n.toNat \ U):Nat):=by unfold bndF;omega
 clear h1 h2 hUs hUl hWl hpts
 rw [hb]
 clear hb
 generalize rkM x U=k1 at *
 generalize rkM y (FS.upTo x.n.toNat \ U)=k2 at *
 generalize (FS.upTo x.n.toNat \ U).l=W at *
 generalize (FS.upTo x.n.toNat).l=E at *
 generalize U.l=Ul at *
 intro H
 obtain ⟨t,n,a,b,l,xs⟩:=x
 obtain ⟨t',n',a',b',l',xs'⟩:=y
 have e1:(Mtd.mk t n a b l xs).n=n:=rfl
 rw [e1] at c2 c4
 simp only [mtA,mtC] at c1 c3 c6 ⊢
 refine aqf Tryz.func44 rfl Tryz.ntmps44 (ts:=[6]) rfl (by simp) (by kernel_rfl) ?_
 repeat'(with_reducible first|(refine aqd (hK _ _ ?_);clear hK K)|((fail_if_success(refine aql 1 ?_));(fail_if_success(refine(?_:AWP _ _ _ (Code.region 1 _ _) _ _ _)));refine vr [] fun K hK=>?_)|(refine aqa fun K' hK'=>?_;simp;repeat'(first|(apply hK';clear hK' K')|intro hg|fail))|((fail_if_success(refine aql 1 ?_));refine sp ?_)|fail)
 rename_i p hp q
 obtain ⟨hqp,hpq,hsub⟩:=cq1 hp hg
 repeat'(with_reducible first|(refine aqd (hK _ _ ?_);clear hK K)|((fail_if_success(refine aql 3 ?_));(fail_if_success(refine(?_:AWP _ _ _ (Code.region 3 _ _) _ _ _)));refine vr [] fun K hK=>?_)|((first|refine aqa fun K' hK'=>?_|refine aqb fun K' B hK' hB=>?_|(apply aqk;refine aqe rfl fun K' hK'=>?_));simp[hqp,hpq];repeat'(first|((first|refine hK' ?_|refine hB ?_);clear hK' hB K' B)|(apply hK';clear hK' K')|refine Ret.use c1 ?_|refine Ret.use c2 ?_|fail))|((fail_if_success(refine aql 3 ?_));refine sp ?_)|fail)
 refine bqu mixed [] [18,21,23] [0,3,4,5,1,2,6,7,8,9,10,11] (by kernel_rfl) (fun K hK=> ?_)
 simp only [List.filterMap_cons,List.filterMap_nil,List.getElem?_cons_succ,List.getElem?_cons_zero]
 repeat'(with_reducible first|(refine sp (hK _ _ ?_);clear hK K)|(refine aqn fun K' hK'=>?_;simp[hqp,hpq,boxes,Blk.isArr,aqg.refl];repeat'(first|(apply hK';clear hK' K')|(refine Ret.use c3 ?_;try simp[hqp,hpq,boxes,Blk.isArr,aqg.refl])|(refine Ret.use c4 ?_;try simp[hqp,hpq,boxes,Blk.isArr,aqg.refl])|(refine Ret.use c5 ?_;try simp[hqp,hpq,boxes,Blk.isArr,aqg.refl])|(refine Ret.use c6 ?_;try simp[hqp,hpq,boxes,Blk.isArr,aqg.refl])|refine And.intro ?_ ?_|(clear hK' K';omega)))|apply aqc|refine sp ?_|fail)
 exact ⟨by simp,hsub _⟩
theorem iq5 {x y:Mtd} (hx:OkT x) (hy:OkT y) (hn:x.n=y.n) {U:FS} (hU:U⊆FS.upTo x.n.toNat):Ret Tryz.prog w0 43 [mtA x,mtA y,ints U.l] (I (bndF x y U:Nat)):=by
 have n1:=bq1 hx.may
 have hUs:aq3 U.l:=cqg hU (by omega)
 have hUl:=bqt hU
 have hW:FS.upTo x.n.toNat \ U⊆FS.upTo y.n.toNat:=fun z hz=>by rw [<-hn];exact (FS.mem_sdiff.1 hz).1
 have hWl:=bqt hW
 have c1:=jqs (w0:=w0) hx hy
 rw [decide_eq_true hn] at c1
 have c2:=jqx (w0:=w0) hx (s:=U.l) (by omega)
 rw [(dqn hx.nice).2 ⟨hx,_,rfl,hU⟩] at c2
 have c3:=RankP_ret (w0:=w0) hx (s:=U.l) (by omega)
 rw [fqm hx hU] at c3
 have c4:Ret Tryz.prog w0 63 [I x.n] (ints (FS.upTo x.n.toNat).l):=by
  have:=kqy (w0:=w0) (n:=x.n)
  rwa [allL,if_pos (by omega)] at this
 have hul:(FS.upTo x.n.toNat).l.length=x.n.toNat:=FS.card_upTo _
 have c5:=dqg (w0:=w0) (a:=(FS.upTo x.n.toNat).l) (b:=U.l) (by omega) (by omega)
 rw [nql (up_set (by omega)) hUs] at c5
 have c6:=RankP_ret (w0:=w0) hy (s:=(FS.upTo x.n.toNat \ U).l) (by omega)
 rw [fqm hy hW] at c6
 have h1:=hx.rk.le_card U
 have h2:=hy.rk.le_card (FS.upTo x.n.toNat \ U)
 have h1':rkM x U<=64:=by have:U.l.length=U.card:=rfl;omega
 have h2':rkM y (FS.upTo x.n.toNat \ U)<=64:=by have:(FS.upTo x.n.toNat \ U).l.length=(FS.upTo x.n.toNat \ U).card:=rfl;omega
 have hb:(bndF x y U:Int)=(rkM x U:Nat)+(rkM y (FS.upTo x.n.toNat \ U):Nat):=by unfold bndF;omega
 clear h1 h2 hUs hUl hWl
 rw [hb]
 clear hb
 generalize rkM x U=k1 at *
 generalize rkM y (FS.upTo x.n.toNat \ U)=k2 at *
 generalize (FS.upTo x.n.toNat \ U).l=W at *
 generalize (FS.upTo x.n.toNat).l=E at *
 generalize U.l=Ul at *
 intro H
 obtain ⟨t,n,a,b,l,xs⟩:=x
 obtain ⟨t',n',a',b',l',xs'⟩:=y
 have e1:(Mtd.mk t n a b l xs).n=n:=rfl
 rw [e1] at c4
 simp only [mtA,mtC] at c1 c2 c3 c6 ⊢
 refine aqf Tryz.func43 rfl Tryz.ntmps43 (ts:=[6]) rfl (by simp) (by kernel_rfl) ?_
 repeat'(with_reducible first|(refine aqd (hK _ _ ?_);clear hK K)|((fail_if_success(refine aql 1 ?_));(fail_if_success(refine(?_:AWP _ _ _ (Code.region 1 _ _) _ _ _)));refine vr [] fun K hK=>?_)|(refine aqa fun K' hK'=>?_;simp;repeat'(first|(apply hK';clear hK' K')|intro hg|fail))|((fail_if_success(refine aql 1 ?_));refine sp ?_)|fail)
 rename_i p hp q
 obtain ⟨hqp,hpq,hsub⟩:=cq1 hp hg
 repeat'(with_reducible first|(refine aqd (hK _ _ ?_);clear hK K)|((fail_if_success(refine aql 3 ?_));(fail_if_success(refine(?_:AWP _ _ _ (Code.region 3 _ _) _ _ _)));refine vr [] fun K hK=>?_)|((first|refine aqa fun K' hK'=>?_|refine aqb fun K' B hK' hB=>?_|(apply aqk;refine aqe rfl fun K' hK'=>?_));simp[hqp,hpq];repeat'(first|((first|refine hK' ?_|refine hB ?_);clear hK' hB K' B)|(apply hK';clear hK' K')|refine Ret.use c1 ?_|refine Ret.use c2 ?_|fail))|((fail_if_success(refine aql 3 ?_));refine sp ?_)|fail)
 refine bqu mixed [] [17,20,22] [0,3,4,5,1,2,6,7,8,9,10,11] (by kernel_rfl) (fun K hK=> ?_)
 simp only [List.filterMap_cons,List.filterMap_nil,List.getElem?_cons_succ,List.getElem?_cons_zero]
 repeat'(with_reducible first|(refine sp (hK _ _ ?_);clear hK K)|(refine aqn fun K' hK'=>?_;simp[hqp,hpq,boxes,Blk.isArr,aqg.refl];repeat'(first|(apply hK';clear hK' K')|(refine Ret.use c3 ?_;try simp[hqp,hpq,boxes,Blk.isArr,aqg.refl])|(refine Ret.use c4 ?_;try simp[hqp,hpq,boxes,Blk.isArr,aqg.refl])|(refine Ret.use c5 ?_;try simp[hqp,hpq,boxes,Blk.isArr,aqg.refl])|(refine Ret.use c6 ?_;try simp[hqp,hpq,boxes,Blk.isArr,aqg.refl])|refine And.intro ?_ ?_|(clear hK' K';omega)))|apply aqc|refine sp ?_|fail)
 exact ⟨by simp,hsub _⟩
theorem BoundP_no {x y:Mtd} (hx:OkT x) (hy:OkT y) (hn:x.n=y.n) {u:List Int} (hu:aqz u) (hs:setT x u=false):Ret Tryz.prog w0 43 [mtA x,mtA y,ints u] (I (-1)):=by
 have c1:=jqs (w0:=w0) hx hy
 rw [decide_eq_true hn] at c1
 have c2:=jqx (w0:=w0) hx hu
 rw [hs] at c2
 intro H
 obtain ⟨t,n,a,b,l,xs⟩:=x
 obtain ⟨t',n',a',b',l',xs'⟩:=y
 simp only [mtA,mtC] at c1 c2 ⊢
 refine aqf Tryz.func43 rfl Tryz.ntmps43 (ts:=[6]) rfl (by simp) (by kernel_rfl) ?_
 repeat'(with_reducible first|(refine sp (hK _ _ ?_);clear hK K)|((fail_if_success(refine aql 1 ?_));(fail_if_success(refine(?_:AWP _ _ _ (Code.region 1 _ _) _ _ _)));refine vr [] fun K hK=>?_)|(refine aqa fun K' hK'=>?_;simp;repeat'(first|(apply hK';clear hK' K')|intro hg|fail))|((fail_if_success(refine aql 1 ?_));refine sp ?_)|fail)
 rename_i p hp q
 obtain ⟨hqp,hpq,hsub⟩:=cq1 hp hg
 repeat'(with_reducible first|(refine sp (hK _ _ ?_);clear hK K)|refine vr [] fun K hK=>?_|((first|refine aqa fun K' hK'=>?_|refine aqb fun K' B hK' hB=>?_|(apply aqk;refine aqe rfl fun K' hK'=>?_));simp[hqp,hpq];repeat'(first|((first|refine hK' ?_|refine hB ?_);clear hK' hB K' B)|(apply hK';clear hK' K')|refine Ret.use c1 ?_|refine Ret.use c2 ?_|fail))|apply aqc|refine sp ?_|fail)
 exact ⟨by simp,hsub _⟩
def wkB (x y:Mtd) (c:AV):Blk:= .box (mtC x++mtC y++[c])
def CellS (c:AV) (s:List Int):Prop:=c=ints s\/c= .sc (.slice none 0 0)/\s=[]
theorem CellS.wks {c:AV} {s:List Int} (h:CellS c s):Wks c (ints s):=by
 rcases h with rfl | ⟨rfl,rfl⟩
 ·exact Wks.refl _
 ·exact Wks.nil
theorem way_len {x y:Mtd} {S:FS} (C:Com x y S) (hw:(wayF x y S).2=true):(wayF x y S).1.length<=64:=by
 obtain ⟨_,_,hnd,hin⟩:=C.grow hw
 have hn:=C.n64
 have:=bq3 (wayF x y S).1 (upto 64) hnd fun z hz=>by have:=hin z hz;rw [aqq];omega
 simpa using this
set_option maxRecDepth 20000 in
set_option maxHeartbeats 4000000 in
theorem step_no {x y:Mtd} {S:FS} (C:Com x y S) (hw:(wayF x y S).2=false) {H:Heap} {p:Nat} {c:AV} (hc:CellS c S.l) (hp:H p=some (wkB x y c)):bqp Tryz.prog w0 82 [.ptr p 0 0] (.tup [ints (uF x y S).l,B false]) H:=by
 have g1:=mqk (w0:=w0) C
 have hal:=C.alen
 have har:=C.arow
 have hn:=C.n64
 have hG:=nqz C
 have A:=fq8 C
 have g2:=gqm (w0:=w0) (adj:=adjS x y S) (fr:=bqj x S) (to:=bqj y S) (by omega) (fun r hr=>by have:=har r hr;omega) (by have:=C.fr;omega) (by have:=C.to;omega)
 have hpa:gqu (adjS x y S) (bqj x S) (bqj y S)=wayF x y S:=by
  rw [gqu,gr_iff.2 hG,fqn.2 A.pf,fqn.2 A.pt];rfl
 rw [hpa,hw] at g2
 have g3:=from_ret (w0:=w0) (adj:=adjS x y S) (l:=bqj x S) (by omega) (fun r hr=>by have:=har r hr;omega) (by have:=C.fr;omega)
 rw [fromL,gr_iff.2 hG,fqn.2 A.pf,Bool.and_self,if_pos rfl] at g3
 have g4:Ret Tryz.prog w0 63 [I x.n] (ints (FS.upTo x.n.toNat).l):=by
  have:=kqy (w0:=w0) (n:=x.n)
  rwa [allL,if_pos (by omega)] at this
 have hul:(FS.upTo x.n.toNat).l.length=x.n.toNat:=FS.card_upTo _
 have hlev:=eqm hG A.pf (adjS x y S).length
 have hll:(levL (adjS x y S) (bqj x S) (adjS x y S).length).length<=64:=by have:=hlev.length;omega
 have g5:=dqg (w0:=w0) (a:=(FS.upTo x.n.toNat).l) (b:=levL (adjS x y S) (bqj x S) (adjS x y S).length) (by omega) (by omega)
 have hu:dq9 (FS.upTo x.n.toNat).l (levL (adjS x y S) (bqj x S) (adjS x y S).length)=(uF x y S).l:=by
  have e:levL (adjS x y S) (bqj x S) (adjS x y S).length=(FS.ofList (levL (adjS x y S) (bqj x S) (adjS x y S).length)).l:=(fs_ofList hlev.set.up).symm
  rw [e,nql (up_set (by omega)) (by rw [<-e];exact hlev.set),uF]
 rw [hu] at g5
 clear hu hpa C A hG har hlev
 generalize (wayF x y S).1=w at *
 generalize levL (adjS x y S) (bqj x S) (adjS x y S).length=L at *
 generalize adjS x y S=Aj at *
 generalize bqj x S=F at *
 generalize bqj y S=G at *
 generalize (uF x y S).l=U at *
 generalize (FS.upTo x.n.toNat).l=E at *
 obtain ⟨t,n,a,b,l,xs⟩:=x
 obtain ⟨t',n',a',b',l',xs'⟩:=y
 have hnn:(Mtd.mk t n a b l xs).n=n:=rfl
 rw [hnn] at g4
 simp only [mtA,mtC] at g1
 simp only [wkB,mtC,List.cons_append,List.nil_append] at hp
 refine bqp.of ?_
 rcases hc with rfl | ⟨rfl,hS⟩
 rotate_left
 ·rw [hS] at g1
  have e0:ints []= .sl [] 0:=rfl
  rw [e0] at g1
  refine aqf Tryz.func82 rfl Tryz.ntmps82 (ts:=[2,3]) rfl (by simp) (by kernel_rfl) ?_
  repeat'(with_reducible first|(refine sp (hK _ _ ?_);clear hK K)|((fail_if_success(refine aql 4 ?_));(fail_if_success(refine(?_:AWP _ _ _ (Code.region 4 _ _) _ _ _)));refine vr [] fun K hK=>?_)|((fail_if_success(refine aql 4 ?_));(fail_if_success(refine(?_:AWP _ _ _ (Code.region 4 _ _) _ _ _)));refine vd [] [14,18,22] mixed fun K hK=>?_)|((first|refine aqa fun K' hK'=>?_|refine aqb fun K' B hK' hB=>?_|refine aqn fun K' hK'=>?_);simp[hp,boxes,Blk.isArr,aqg.refl];repeat'(first|((first|refine hK' ?_|refine hB ?_);clear hK' hB K' B)|(apply hK';clear hK' K')|(refine Ret.use g1 ?_;try simp[hp,boxes,Blk.isArr,aqg.refl])|(refine Ret.use g2 ?_;try simp[hp,boxes,Blk.isArr,aqg.refl])|fail))|((fail_if_success(refine aql 4 ?_));refine sp ?_)|fail)
  repeat'(with_reducible first|(refine sp (hK _ _ ?_);clear hK K)|refine vr [] fun K hK=>?_|(refine aqa fun K' hK'=>?_;simp[hp];repeat'(first|(apply hK';clear hK' K')|refine Ret.use g3 ?_|refine Ret.use g4 ?_|refine Ret.use g5 ?_|fail))|apply aqc|refine sp ?_|fail)
  exact ⟨by simp,.refl _⟩
 ·refine aqf Tryz.func82 rfl Tryz.ntmps82 (ts:=[2,3]) rfl (by simp) (by kernel_rfl) ?_
  repeat'(with_reducible first|(refine sp (hK _ _ ?_);clear hK K)|((fail_if_success(refine aql 4 ?_));(fail_if_success(refine(?_:AWP _ _ _ (Code.region 4 _ _) _ _ _)));refine vr [] fun K hK=>?_)|((fail_if_success(refine aql 4 ?_));(fail_if_success(refine(?_:AWP _ _ _ (Code.region 4 _ _) _ _ _)));refine vd [] [14,18,22] mixed fun K hK=>?_)|((first|refine aqa fun K' hK'=>?_|refine aqb fun K' B hK' hB=>?_|refine aqn fun K' hK'=>?_);simp[hp,boxes,Blk.isArr,aqg.refl];repeat'(first|((first|refine hK' ?_|refine hB ?_);clear hK' hB K' B)|(apply hK';clear hK' K')|(refine Ret.use g1 ?_;try simp[hp,boxes,Blk.isArr,aqg.refl])|(refine Ret.use g2 ?_;try simp[hp,boxes,Blk.isArr,aqg.refl])|fail))|((fail_if_success(refine aql 4 ?_));refine sp ?_)|fail)
  repeat'(with_reducible first|(refine sp (hK _ _ ?_);clear hK K)|refine vr [] fun K hK=>?_|(refine aqa fun K' hK'=>?_;simp[hp];repeat'(first|(apply hK';clear hK' K')|refine Ret.use g3 ?_|refine Ret.use g4 ?_|refine Ret.use g5 ?_|fail))|apply aqc|refine sp ?_|fail)
  exact ⟨by simp,.refl _⟩
set_option maxRecDepth 20000 in
set_option maxHeartbeats 4000000 in
theorem step_yes {x y:Mtd} {S:FS} (C:Com x y S) (hw:(wayF x y S).2=true) {H:Heap} {p:Nat} {c:AV} (hc:CellS c S.l) (hp:H p=some (wkB x y c)):aqo Tryz.prog w0 82 [.ptr p 0 0] H (fun v H'=>v= .tup [.sl [] 0,B true]/\H'=upd H p (some (wkB x y (ints (eqg S (wayF x y S).1).l)))):=by
 have g1:=mqk (w0:=w0) C
 have hal:=C.alen
 have har:=C.arow
 have hn:=C.n64
 have hG:=nqz C
 have A:=fq8 C
 have g2:=gqm (w0:=w0) (adj:=adjS x y S) (fr:=bqj x S) (to:=bqj y S) (by omega) (fun r hr=>by have:=har r hr;omega) (by have:=C.fr;omega) (by have:=C.to;omega)
 have hpa:gqu (adjS x y S) (bqj x S) (bqj y S)=wayF x y S:=by
  rw [gqu,gr_iff.2 hG,fqn.2 A.pf,fqn.2 A.pt];rfl
 rw [hpa,hw] at g2
 have hpl:=way_len C hw
 obtain ⟨C',_,hnd,hin⟩:=C.grow hw
 have hSl:=C.slen
 have g3:=TurnP_ret (w0:=w0) (s:=S.l) (path:=(wayF x y S).1) (by omega) (by omega)
 rw [turnR_eq C.set hnd fun z hz=>by have:=hin z hz;omega] at g3
 clear hpa C A hG har C' hnd hin hw
 generalize (eqg S (wayF x y S).1).l=T at *
 generalize (wayF x y S).1=w at *
 generalize adjS x y S=Aj at *
 generalize bqj x S=F at *
 generalize bqj y S=G at *
 clear hSl
 generalize S.l=Sl at *
 obtain ⟨t,n,a,b,l,xs⟩:=x
 obtain ⟨t',n',a',b',l',xs'⟩:=y
 simp only [mtA,mtC] at g1
 simp only [wkB,mtC,List.cons_append,List.nil_append] at hp ⊢
 rcases hc with rfl | ⟨rfl,hS⟩
 rotate_left
 ·rw [hS] at g1 g3
  have e0:ints []= .sl [] 0:=rfl
  rw [e0] at g1 g3
  refine aqf Tryz.func82 rfl Tryz.ntmps82 (ts:=[2,3]) rfl (by simp) (by kernel_rfl) ?_
  repeat'(with_reducible first|(refine sp (hK _ _ ?_);clear hK K)|((fail_if_success(refine aql 5 ?_));(fail_if_success(refine(?_:AWP _ _ _ (Code.region 5 _ _) _ _ _)));refine vr [] fun K hK=>?_)|((fail_if_success(refine aql 5 ?_));(fail_if_success(refine(?_:AWP _ _ _ (Code.region 5 _ _) _ _ _)));refine vd [] [14,18,22] mixed fun K hK=>?_)|((first|refine aqa fun K' hK'=>?_|refine aqb fun K' B hK' hB=>?_|refine aqn fun K' hK'=>?_);simp[hp,boxes,Blk.isArr,aqg.refl];repeat'(first|((first|refine hK' ?_|refine hB ?_);clear hK' hB K' B)|(apply hK';clear hK' K')|(refine Ret.use g1 ?_;try simp[hp,boxes,Blk.isArr,aqg.refl])|(refine Ret.use g2 ?_;try simp[hp,boxes,Blk.isArr,aqg.refl])|fail))|((fail_if_success(refine aql 5 ?_));refine sp ?_)|fail)
  repeat'(with_reducible first|(refine sp (hK _ _ ?_);clear hK K)|refine vr [] fun K hK=>?_|(refine aqa fun K' hK'=>?_;simp[hp];repeat'(first|(apply hK';clear hK' K')|refine Ret.use g3 ?_|fail))|apply aqc|refine sp ?_|fail)
  exact ⟨by simp,by simp [ints]⟩
 ·refine aqf Tryz.func82 rfl Tryz.ntmps82 (ts:=[2,3]) rfl (by simp) (by kernel_rfl) ?_
  repeat'(with_reducible first|(refine sp (hK _ _ ?_);clear hK K)|((fail_if_success(refine aql 5 ?_));(fail_if_success(refine(?_:AWP _ _ _ (Code.region 5 _ _) _ _ _)));refine vr [] fun K hK=>?_)|((fail_if_success(refine aql 5 ?_));(fail_if_success(refine(?_:AWP _ _ _ (Code.region 5 _ _) _ _ _)));refine vd [] [14,18,22] mixed fun K hK=>?_)|((first|refine aqa fun K' hK'=>?_|refine aqb fun K' B hK' hB=>?_|refine aqn fun K' hK'=>?_);simp[hp,boxes,Blk.isArr,aqg.refl];repeat'(first|((first|refine hK' ?_|refine hB ?_);clear hK' hB K' B)|(apply hK';clear hK' K')|(refine Ret.use g1 ?_;try simp[hp,boxes,Blk.isArr,aqg.refl])|(refine Ret.use g2 ?_;try simp[hp,boxes,Blk.isArr,aqg.refl])|fail))|((fail_if_success(refine aql 5 ?_));refine sp ?_)|fail)
  repeat'(with_reducible first|(refine sp (hK _ _ ?_);clear hK K)|refine vr [] fun K hK=>?_|(refine aqa fun K' hK'=>?_;simp[hp];repeat'(first|(apply hK';clear hK' K')|refine Ret.use g3 ?_|fail))|apply aqc|refine sp ?_|fail)
  exact ⟨by simp,by simp [ints]⟩
set_option maxRecDepth 20000 in
set_option maxHeartbeats 4000000 in
theorem fqg {x y:Mtd} (hx:OkT x) (hy:OkT y) (hn:x.n=y.n):Ret Tryz.prog w0 41 [mtA x,mtA y] (.tup [ints (maxS x y).l,ints (uF x y (maxS x y)).l,I 0]):=by
 have c1:=jqs (w0:=w0) hx hy
 rw [decide_eq_true hn] at c1
 have hM:=dqp hx hy hn
 have s1:=fun (S:FS) (C:Com x y S) (hw:(wayF x y S).2=true) H p c hc hp=>step_yes (w0:=w0) C hw (H:=H) (p:=p) (c:=c) hc hp
 have s2:=fun (H:Heap) (p:Nat) (c:AV) hc hp=>step_no (w0:=w0) hM.com hM.no (H:=H) (p:=p) (c:=c) hc hp
 have hC0:=kqv hx hy hn
 have hmax:maxF x y (x.n.toNat+1-(∅ :FS).card) ∅ =maxS x y:=rfl
 intro H
 obtain ⟨t,n,a,b,l,xs⟩:=x
 obtain ⟨t',n',a',b',l',xs'⟩:=y
 have hb:∀ c,wkB (.mk t n a b l xs) (.mk t' n' a' b' l' xs') c= .box [I t,I n,I a,I b,rows l,.sl (mtCs xs) xs.length,I t',I n',I a',I b',rows l',.sl (mtCs xs') xs'.length,c]:=fun c=>rfl
 generalize hxe:Mtd.mk t n a b l xs=x at *
 generalize hye:Mtd.mk t' n' a' b' l' xs'=y at *
 have hx1:mtA x= .agg [I t,I n,I a,I b,rows l,.sl (mtCs xs) xs.length]:=by rw [<-hxe];rfl
 have hy1:mtA y= .agg [I t',I n',I a',I b',rows l',.sl (mtCs xs') xs'.length]:=by rw [<-hye];rfl
 rw [hx1,hy1] at c1
 rw [hx1,hy1]
 refine aqf Tryz.func41 rfl Tryz.ntmps41 (ts:=[4,5,6]) rfl (by simp) (by kernel_rfl) ?_
 repeat'(with_reducible first|(refine aqd (hK _ _ ?_);clear hK K)|((fail_if_success(refine aql 1 ?_));(fail_if_success(refine(?_:AWP _ _ _ (Code.region 1 _ _) _ _ _)));refine vr [] fun K hK=>?_)|(refine aqa fun K' hK'=>?_;simp;repeat'(first|(apply hK';clear hK' K')|intro hg|fail))|((fail_if_success(refine aql 1 ?_));refine sp ?_)|fail)
 rename_i p hp q
 obtain ⟨hqp,hpq,hsub⟩:=cq1 hp hg
 repeat'(with_reducible first|(refine aqd (hK _ _ ?_);clear hK K)|refine vr [] fun K hK=>?_|((first|refine aqa fun K' hK'=>?_|refine aqb fun K' B hK' hB=>?_);simp[hqp,hpq];repeat'(first|((first|refine hK' ?_|refine hB ?_);clear hK' hB K' B)|(apply hK';clear hK' K')|refine Ret.use c1 ?_|intro hg|fail))|refine sp ?_|fail)
 rename_i r
 rw [<-hb]
 have hsub2:=hsub (.box [I t',I n',I a',I b',rows l',.sl (mtCs xs') xs'.length])
 generalize hH2:upd (upd H p _) q _=H2 at *
 refine iqz (fun m env h=>∃ (S:FS) (c:AV),Com x y S/\CellS c S.l/\maxF x y (x.n.toNat+1-S.card) S=maxS x y/\m=x.n.toNat+1-S.card/\h=upd H2 r (some (wkB x y c))/\env 7= .ptr r 0 0) ?_ ?_
 ·exact ⟨_,∅,_,hC0,.inr ⟨rfl,rfl⟩,hmax,rfl,rfl,by simp⟩
 rintro m env h ⟨S,c,C,hc,hmx,rfl,rfl,h7⟩
 have lr:upd H2 r (some (wkB x y c)) r=some (wkB x y c):=aqj _ _ _
 by_cases hw:(wayF x y S).2=true
 ·have k:=s1 S C hw _ r c hc lr
  obtain ⟨C',hcard,_⟩:=C.grow hw
  have hcl:=C'.card_le
  rw [maxF_grow C hw] at hmx
  repeat'(first|(with_reducible (refine aqd (hK _ _ ?_);clear hK K))|(with_reducible refine vr [] fun K hK=>?_)|((with_reducible first|refine aqa fun K' hK'=>?_|refine aqb fun K' B hK' hB=>?_);simp[h7];repeat'(first|(with_reducible first|((first|refine hK' ?_|refine hB ?_);clear hK' hB K' B)|(apply hK';clear hK' K'))|((with_reducible refine aqo.mono k ?_;rintro v H' ⟨rfl,rfl⟩);try simp[h7])|fail))|(with_reducible refine sp ?_)|fail)
  exact ⟨x.n.toNat+1-(eqg S (wayF x y S).1).card,by omega,_,_,C',.inl rfl,hmx,rfl,rfl,by simp [h7]⟩
 ·have hSm:S=maxS x y:=by rw [<-hmx,maxF_end (by simpa using hw)]
  subst hSm
  have k:=s2 _ r c hc lr
  have hfree:=(ite_free2 hg).2.2
  rw [hb] at k lr
  rcases hc with rfl | ⟨rfl,hS⟩
  rotate_left
  ·rw [hS]
   repeat'(first|(with_reducible (refine aqd (hK _ _ ?_);clear hK K))|(with_reducible refine vr [] fun K hK=>?_)|((with_reducible first|refine aqa fun K' hK'=>?_|refine aqb fun K' B hK' hB=>?_);simp[h7,lr,hb];repeat'(first|(with_reducible first|((first|refine hK' ?_|refine hB ?_);clear hK' hB K' B)|(apply hK';clear hK' K'))|((with_reducible refine bqp.use k ?_);try simp[h7,lr,hb])|fail))|(with_reducible first|apply aqc|refine sp ?_)|fail)
   exact ⟨by simp [ints],hsub2.upd hfree _⟩
  ·repeat'(first|(with_reducible (refine aqd (hK _ _ ?_);clear hK K))|(with_reducible refine vr [] fun K hK=>?_)|((with_reducible first|refine aqa fun K' hK'=>?_|refine aqb fun K' B hK' hB=>?_);simp[h7,lr,hb];repeat'(first|(with_reducible first|((first|refine hK' ?_|refine hB ?_);clear hK' hB K' B)|(apply hK';clear hK' K'))|((with_reducible refine bqp.use k ?_);try simp[h7,lr,hb])|fail))|(with_reducible first|apply aqc|refine sp ?_)|fail)
   exact ⟨by simp [ints],hsub2.upd hfree _⟩
theorem Max_no {x y:Mtd} (hx:OkT x) (hy:OkT y) (hn:x.n≠y.n):Ret Tryz.prog w0 41 [mtA x,mtA y] (.tup [.sl [] 0,.sl [] 0,I 1]):=by
 have c1:=jqs (w0:=w0) hx hy
 rw [decide_eq_false hn] at c1
 intro H
 obtain ⟨t,n,a,b,l,xs⟩:=x
 obtain ⟨t',n',a',b',l',xs'⟩:=y
 simp only [mtA,mtC] at c1 ⊢
 refine aqf Tryz.func41 rfl Tryz.ntmps41 (ts:=[4,5,6]) rfl (by simp) (by kernel_rfl) ?_
 repeat'(with_reducible first|(refine aqd (hK _ _ ?_);clear hK K)|((fail_if_success(refine aql 1 ?_));(fail_if_success(refine(?_:AWP _ _ _ (Code.region 1 _ _) _ _ _)));refine vr [] fun K hK=>?_)|(refine aqa fun K' hK'=>?_;simp;repeat'(first|(apply hK';clear hK' K')|intro hg|fail))|((fail_if_success(refine aql 1 ?_));refine sp ?_)|fail)
 rename_i p hp q
 obtain ⟨hqp,hpq,hsub⟩:=cq1 hp hg
 repeat'(with_reducible first|(refine aqd (hK _ _ ?_);clear hK K)|refine vr [] fun K hK=>?_|((first|refine aqa fun K' hK'=>?_|refine aqb fun K' B hK' hB=>?_);simp[hqp,hpq];repeat'(first|((first|refine hK' ?_|refine hB ?_);clear hK' hB K' B)|(apply hK';clear hK' K')|refine Ret.use c1 ?_|fail))|apply aqc|refine sp ?_|fail)
 exact ⟨by simp,hsub _⟩
theorem Ret.uni2 {P:Program} {f:FuncId} {n a n' a':Int} {r:AV} (h:Ret P w0 f [mtA (uni n a),mtA (uni n' a')] r):Ret P w0 f [mtZ n a,mtZ n' a'] r:=
 h.wks rfl fun i u v h1 h2=>by
  match i with
  | 0=>simp at h1 h2;subst h1;subst h2;exact jqz _ _
  | 1=>simp at h1 h2;subst h1;subst h2;exact jqz _ _
  | i+2=>simp at h1
theorem Ret.uni_r {P:Program} {f:FuncId} {n a:Int} {x r:AV} (h:Ret P w0 f [x,mtA (uni n a)] r):Ret P w0 f [x,mtZ n a] r:=
 h.wks rfl fun i u v h1 h2=>by
  match i with
  | 0=>simp at h1 h2;subst h1;subst h2;exact Wks.refl _
  | 1=>simp at h1 h2;subst h1;subst h2;exact jqz _ _
  | i+2=>simp at h1
theorem uni_way {n a a':Int} {S:FS} {A:List (List Int)} {F T:List Int} {r:List Int×Bool} (h1:adjS (uni n a) (uni n a') S=A) (h2:bqj (uni n a) S=F) (h3:bqj (uni n a') S=T) (h:jqj A F T=r):wayF (uni n a) (uni n a') S=r:=by
 rw [wayF,h1,h2,h3,h]
theorem bnd_uni {n a a':Int} {U:FS} (k:Nat) (h:min (U∩FS.upTo n.toNat).card a.toNat+min ((FS.upTo n.toNat \ U)∩FS.upTo n.toNat).card a'.toNat=k):bndF (uni n a) (uni n a') U=k:=by
 rw [bndF,uni_rk,uni_rk,uni_n,h]
set_option maxRecDepth 20000 in
set_option maxHeartbeats 4000000 in
theorem gq4:Ret Tryz.prog w0 40 [] (B true):=by
 have o2:=uni_ok (n:=3) (a:=2) (by omega) (by omega) (by omega)
 have o1:=uni_ok (n:=3) (a:=1) (by omega) (by omega) (by omega)
 have o3:=uni_ok (n:=2) (a:=1) (by omega) (by omega) (by omega)
 have se:fS []⊆FS.upTo (3:Int).toNat:=by intro x hx;rw [FS.mem_ofList] at hx;simp at hx
 have s0:fS [0]⊆FS.upTo (3:Int).toNat:=by unfold fS;intro x hx;rw [FS.mem_ofList] at hx;rw [FS.mem_upTo];simp at hx;omega
 have w1:wayF (uni 3 2) (uni 3 1) (fS [])=([0],true):=uni_way (A:=[[],[],[]]) (F:=[0,1,2]) (T:=[0,1,2]) (by rw [uni_adj se];decide +kernel) (by rw [hqe se];decide +kernel) (by rw [hqe se];decide +kernel) (by decide +kernel)
 have w2:wayF (uni 3 2) (uni 3 1) (fS [0])=([],false):=uni_way (A:=[[1,2],[0],[0]]) (F:=[1,2]) (T:=[]) (by rw [uni_adj s0];decide +kernel) (by rw [hqe s0];decide +kernel) (by rw [hqe s0];decide +kernel) (by decide +kernel)
 have hm:maxS (uni 3 2) (uni 3 1)=fS [0]:=by
  have e:(∅ :FS)=fS []:=FS.ext' (by decide +kernel)
  rw [maxS,e,maxF,w1,if_pos rfl]
  have e2:eqg (fS []) [0]=fS [0]:=FS.ext' (by decide +kernel)
  rw [e2]
  exact maxF_end (by rw [w2]) _
 have hU:uF (uni 3 2) (uni 3 1) (fS [0])=fS []:=by
  rw [uF,uni_adj s0,hqe s0]
  exact FS.ext' (by decide +kernel)
 have g1:=(fqg (w0:=w0) o2 o1 rfl).uni2
 rw [hm,hU,show (fS [0]).l=[0] by decide +kernel,show (fS []).l=[] by decide +kernel] at g1
 have g2:=(Max_no (w0:=w0) o2 o3 (by decide)).uni2
 have b1:=(iq5 (w0:=w0) o2 o1 rfl (U:=fS []) se).uni3
 rw [bnd_uni 1 (by decide +kernel),show (fS []).l=[] by decide +kernel] at b1
 have sa:fS [0,1,2]⊆FS.upTo (3:Int).toNat:=by unfold fS;intro x hx;rw [FS.mem_ofList] at hx;rw [FS.mem_upTo];simp at hx;omega
 have b2:=(iq5 (w0:=w0) o2 o1 rfl (U:=fS [0,1,2]) sa).uni3
 rw [bnd_uni 2 (by decide +kernel),show (fS [0,1,2]).l=[0,1,2] by decide +kernel] at b2
 have b3:=(BoundP_no (w0:=w0) o2 o1 rfl (u:=[3]) (by simp) (by rw [setT];simp [ptsB,uni_n])).uni3
 have e1:=same_ret (w0:=w0) (a:=[0]) (b:=[0]) (by simp) (by simp)
 clear o1 o2 o3 se s0 sa w1 w2 hm hU
 intro H
 simp only [mtZ,ints,rows,List.map_cons,List.map_nil,List.length_cons,List.length_nil,Nat.zero_add,Nat.reduceAdd,decide_true] at *
 refine aqf Tryz.func40 rfl Tryz.ntmps40 (ts:=[0]) rfl (by simp) (by kernel_rfl) ?_
 repeat'(with_reducible first|(refine aqd (hK _ _ ?_);clear hK K)|((fail_if_success(refine aql 2 ?_));(fail_if_success(refine(?_:AWP _ _ _ (Code.region 2 _ _) _ _ _)));refine vr [] fun K hK=>?_)|(refine aqa fun K' hK'=>?_;simp;repeat'(first|(apply hK';clear hK' K')|intro hg|fail))|fail)
 rename_i p hp q
 obtain ⟨hqp,hpq,hsub⟩:=cq1 hp hg
 simp [hqp,hpq]
 with_reducible refine hK' _ _ ?_
 clear hK' K'
 repeat'(with_reducible first|(refine aqd (hK _ _ ?_);clear hK K)|refine vr [] fun K hK=>?_|((first|refine aqa fun K' hK'=>?_|(apply aqk;refine aqe rfl fun K' hK'=>?_));simp[hqp,hpq];repeat'(first|(apply hK';clear hK' K')|refine Ret.use g1 ?_|refine Ret.use g2 ?_|refine Ret.use b1 ?_|refine Ret.use b2 ?_|refine Ret.use b3 ?_|refine Ret.use e1 ?_|fail))|apply aqc|refine sp ?_|fail)
 exact ⟨by simp,((hsub _).upd hp _).upd (gqd hg).2 _⟩
theorem MaxC.len {x y:Mtd} {S:FS} (h:MaxC x y S):S.l.length<=64:=h.com.slen
theorem uF_len {x y:Mtd} (C:Com x y ∅) (S:FS):(uF x y S).l.length<=64:=by
 have:=bqt (uF_sub (a:=x) (b:=y) (S:=S))
 have:=C.n64
 omega
theorem uni_free {n:Int} (h:0<=n) {s:FS} (hs:s⊆FS.upTo n.toNat):Rk.Ind (rkM (uni n n)) s:=by
 rw [uni_ind hs]
 have:=FS.card_le hs
 rwa [FS.card_upTo] at this
set_option maxRecDepth 20000 in
set_option maxHeartbeats 4000000 in
theorem kq8 {x y:Mtd} (hx:LenM x) (hy:LenM y):Ret Tryz.prog w0 11 [mtA x,mtA y] (B true):=by
 have cf:=gq4 (w0:=w0)
 have c1:=hq8 (w0:=w0) x hx 8
 have c2:=hq8 (w0:=w0) y hy 8
 intro H
 have hcase:(fewR x 8=false\/fewR x 8=true/\fewR y 8=false\/fewR x 8=true/\fewR y 8=true/\mayX x y=false)\/fewR x 8=true/\fewR y 8=true/\mayX x y=true:=by
  cases fewR x 8<;>cases fewR y 8<;>cases mayX x y<;>simp
 have c3:fewR x 8=true->fewR y 8=true->Ret Tryz.prog w0 45 [mtA x,mtA y] (B (mayX x y)):=fun h1 h2=>kq1 (Nice.of hx h1) (Nice.of hy h2)
 rcases hcase with (h1 | ⟨h1,h2⟩ | ⟨h1,h2,hm⟩) | ⟨h1,h2,hm⟩
 rotate_right
 rotate_left
 iterate 3
  try have c3:=c3 h1 h2
  try rw [hm] at c3
  rw [h1] at c1
  try rw [h2] at c2
  obtain ⟨t,n,a,b,l,xs⟩:=x
  obtain ⟨t',n',a',b',l',xs'⟩:=y
  simp only [mtA,mtC] at c1 c2 c3 ⊢
  refine aqf Tryz.func11 rfl Tryz.ntmps11 (ts:=[4]) rfl (by simp) (by kernel_rfl) ?_
  repeat'(with_reducible first|(refine aqd (hK _ _ ?_);clear hK K)|((fail_if_success(refine aql 1 ?_));(fail_if_success(refine(?_:AWP _ _ _ (Code.region 1 _ _) _ _ _)));refine vr [] fun K hK=>?_)|(refine aqa fun K' hK'=>?_;simp;repeat'(first|(apply hK';clear hK' K')|intro hg|fail))|((fail_if_success(refine aql 1 ?_));refine sp ?_)|fail)
  rename_i p hp q
  obtain ⟨hqp,hpq,hsub⟩:=cq1 hp hg
  repeat'(with_reducible first|(refine aqd (hK _ _ ?_);clear hK K)|refine vr [] fun K hK=>?_|((first|refine aqa fun K' hK'=>?_|refine aqb fun K' B hK' hB=>?_|(apply aqk;refine aqe rfl fun K' hK'=>?_));simp[hqp,hpq];repeat'(first|((first|refine hK' ?_|refine hB ?_);clear hK' hB K' B)|(apply hK';clear hK' K')|refine Ret.use cf ?_|refine Ret.use c1 ?_|refine Ret.use c2 ?_|refine Ret.use c3 ?_|fail))|apply aqc|refine sp ?_|fail)
  exact ⟨by simp,hsub _⟩
 have c3:=c3 h1 h2
 rw [hm] at c3
 rw [h1] at c1
 rw [h2] at c2
 obtain ⟨ox,oy,hn⟩:=(mq6 (Nice.of hx h1) (Nice.of hy h2)).1 hm
 have n1:=bq1 ox.may
 have M1:=dqp ox oy hn
 have M2:=dqp oy ox hn.symm
 have M3:=dqp ox ox rfl
 have of:=uni_ok (n:=x.n) (a:=x.n) (by omega) (by omega) (by omega)
 have M4:=dqp ox of (by rw [uni_n])
 have g1:=fqg (w0:=w0) ox oy hn
 have g2:=fqg (w0:=w0) oy ox hn.symm
 have g3:=fqg (w0:=w0) ox ox rfl
 have g4:=(fqg (w0:=w0) ox of (by rw [uni_n])).uni_r
 have e1:(maxS x y).l.length=(maxS y x).l.length:=M1.same M2
 have e3:(maxS x x).l.length=rkM x (FS.upTo x.n.toNat):=M3.rank fun s _ h=>h
 have e4:(maxS x (uni x.n x.n)).l.length=rkM x (FS.upTo x.n.toNat):=M4.rank fun s hs _=>uni_free n1.1 hs
 have g5:Ret Tryz.prog w0 35 [I x.n] (ints (FS.upTo x.n.toNat).l):=by
  have:=jqu (w0:=w0) (n:=x.n)
  rwa [allL,if_pos (by omega)] at this
 have hUl:(FS.upTo x.n.toNat).l.length=x.n.toNat:=FS.card_upTo _
 have g6:=iq3 (w0:=w0) ox.nice (s:=(FS.upTo x.n.toNat).l) (by omega)
 rw [fqm ox (FS.sub_refl _)] at g6
 have l1:=M1.len
 have l2:=M3.len
 have l3:=M4.len
 clear M1 M2 M3 M4 of hm
 generalize (uF x y (maxS x y)).l=u1 at *
 generalize (uF y x (maxS y x)).l=u2 at *
 generalize (uF x x (maxS x x)).l=u3 at *
 generalize (uF x (uni x.n x.n) (maxS x (uni x.n x.n))).l=u4 at *
 generalize (maxS x y).l=s1 at *
 generalize (maxS y x).l=s2 at *
 generalize (maxS x x).l=s3 at *
 generalize (maxS x (uni x.n x.n)).l=s4 at *
 generalize rkM x (FS.upTo x.n.toNat)=rk at *
 generalize (FS.upTo x.n.toNat).l=E at *
 have e1':=eq_true (show (s1.length:Int)=s2.length by omega)
 have e3':=eq_true (show (s3.length:Int)=rk by omega)
 have e4':=eq_true (show (s4.length:Int)=rk by omega)
 obtain ⟨t,n,a,b,l,xs⟩:=x
 obtain ⟨t',n',a',b',l',xs'⟩:=y
 have hnn:(Mtd.mk t n a b l xs).n=n:=rfl
 rw [hnn] at g4 g5
 simp only [mtA,mtC,mtZ] at c1 c2 c3 g1 g2 g3 g4 g6 ⊢
 refine aqf Tryz.func11 rfl Tryz.ntmps11 (ts:=[4]) rfl (by simp) (by kernel_rfl) ?_
 repeat'(with_reducible first|(refine aqd (hK _ _ ?_);clear hK K)|((fail_if_success(refine aql 1 ?_));(fail_if_success(refine(?_:AWP _ _ _ (Code.region 1 _ _) _ _ _)));refine vr [] fun K hK=>?_)|(refine aqa fun K' hK'=>?_;simp;repeat'(first|(apply hK';clear hK' K')|intro hg|fail))|((fail_if_success(refine aql 1 ?_));refine sp ?_)|fail)
 rename_i p hp q
 obtain ⟨hqp,hpq,hsub⟩:=cq1 hp hg
 repeat'(with_reducible first|(refine aqd (hK _ _ ?_);clear hK K)|((fail_if_success(refine aql 7 ?_));(fail_if_success(refine(?_:AWP _ _ _ (Code.region 7 _ _) _ _ _)));refine vr [] fun K hK=>?_)|((first|refine aqa fun K' hK'=>?_|refine aqb fun K' B hK' hB=>?_|(apply aqk;refine aqe rfl fun K' hK'=>?_));simp[hqp,hpq];repeat'(first|((first|refine hK' ?_|refine hB ?_);clear hK' hB K' B)|(apply hK';clear hK' K')|refine Ret.use cf ?_|refine Ret.use c1 ?_|refine Ret.use c2 ?_|refine Ret.use c3 ?_|refine Ret.use g1 ?_|refine Ret.use g2 ?_|refine Ret.use g3 ?_|refine Ret.use g4 ?_|fail))|((fail_if_success(refine aql 7 ?_));refine sp ?_)|fail)
 refine bqu mixed [] [69,71] [0,1,2,3,4,5] (by kernel_rfl) (fun K hK=> ?_)
 simp only [List.filterMap_cons,List.filterMap_nil,List.getElem?_cons_succ,List.getElem?_cons_zero]
 repeat'(with_reducible first|(refine sp (hK _ _ ?_);clear hK K)|refine vr [] fun K hK=>?_|((first|refine aqa fun K' hK'=>?_|refine aqn fun K' hK'=>?_|(apply aqk;refine aqe rfl fun K' hK'=>?_));simp[hqp,hpq,boxes,Blk.isArr,aqg.refl,e1',e3',e4'];repeat'(first|(apply hK';clear hK' K')|(refine Ret.use g5 ?_;try simp[hqp,hpq,boxes,Blk.isArr,aqg.refl,e1',e3',e4'])|(refine Ret.use g6 ?_;try simp[hqp,hpq,boxes,Blk.isArr,aqg.refl,e1',e3',e4'])|fail))|apply aqc|refine sp ?_|fail)
 exact ⟨by simp,hsub _⟩
end Go.Am
