/- Contracts and plain laws that the law InterTurnsG needs, part 2. -/
import Derived.Test.YtcdcombogmflkaaGreatDoorZInterTurnsG1
import Derived.MapKept
import Derived.Lib.AppendZeros
namespace Go.Am
open Go
section
variable {P:Program} {w0:World} {nt:Nat}
def zrep (zs:List Value) (n:Nat):List AV:=(List.range n).map fun i=> .sc (zs.getD (i%zs.length) undef)
theorem cqp (zs:List Value) (n:Nat):(zrep zs n).length=n:=by simp [zrep]
theorem zrep_one (z:Value) (n:Nat):zrep [z] n=List.replicate n (.sc z):=by
 unfold zrep
 apply List.ext_getElem?
 intro i
 simp only [List.getElem?_map,List.length_singleton,Nat.mod_one,List.getD_cons_zero,List.getElem?_replicate]
 by_cases h:i<n
 ·simp [h]
 ·simp [h]
theorem jqw (F:Ft) (M:Mt) {zs:List Value} (h:zs.all Value.oneCell'=true) (n:Nat) (hz:zs≠[]\/n=0) {z:Array Value} (e:z.toList=zs):
  VRC F M (zrep zs n) (madeCells z n) 0:=by
 intro i av hi
 simp only [zrep,List.getElem?_map] at hi
 by_cases hlt:i<n
 ·simp only [List.getElem?_range hlt,Option.map_some,Option.some.injEq] at hi
  subst hi
  have hne:zs≠[]:=by rcases hz with h | h;exact h;omega
  have hpos:0<zs.length:=List.length_pos_iff.2 hne
  have hm:i%zs.length<zs.length:=Nat.mod_lt _ hpos
  have hsz:z.size=zs.length:=by rw [<-e];simp
  have hgd:zs.getD (i%zs.length) undef=zs[i%zs.length]:=by simp [List.getD_eq_getElem?_getD,hm]
  rw [hgd]
  refine ⟨?_,zs[i%zs.length],?_,.sc _⟩
  ·have:zs[i%zs.length]∈zs:=List.getElem_mem hm
   exact List.all_eq_true.1 h _ this
  ·have hm':i%z.size<z.size:=by rw [hsz];exact hm
   simp only [madeCells,Nat.zero_add]
   rw [Array.getElem?_map]
   have:(Array.range n)[i]? =some i:=by simp [hlt]
   rw [this]
   simp only [Option.map_some,getElem!_pos z (i%z.size) hm']
   subst e
   simp
 ·rw [List.getElem?_eq_none (by simpa using hlt)] at hi
  cases hi
theorem Rel.newArr {w:World} {F:Ft} {M:Mt} {H:Heap} (h:Rel w0 w F M H) (es:Nat) (e:TypeId) (cells:List AV) (n cap:Nat) (cs:Array Value) (hC:VRC F M cells cs 0)
  (hl:cells.length=n*es) (he:0<es) (hn:n<=cap) (hm:cap<=maxLen) (hs:cap*es<=cs.size):
  ∃ r M',H r=none/\Ext F F M M'/\Rel w0 (w.alloc (.cells cs e)) F M' (upd H r (some (.arr es e cells n)))/\M' r n=some (some ⟨w.heap.size,0,none⟩,cap,es):=by
 obtain ⟨N,hN⟩:=h.fresh
 have hH:=(hN N (Nat.le_refl _)).1
 have hMN:=(hN N (Nat.le_refl _)).2
 let M':Mt:=fun s t=>if s=N/\t=n then some (some ⟨w.heap.size,0,none⟩,cap,es) else M s t
 have hM':M' N n=some (some ⟨w.heap.size,0,none⟩,cap,es):=by simp [M']
 have hx:Ext F F M M':=⟨fun _ _ h=>h,fun s t y hy=>by
  simp only [M']
  split
  ·rename_i e;rw [e.1,hMN] at hy;cases hy
  ·exact hy⟩
 have hnew:(w.alloc (.cells cs e)).heap[w.heap.size]? =some (.cells cs e):=kqs w _
 have st:=h.step (w':=w.alloc (.cells cs e)) (M':=M') N N (.arr es e cells n) rfl rfl rfl
  (fun b hb _=>kqr w _ b hb) (fun s t=>by
   simp only [M',Blk.gen]
   by_cases e:s=N/\t=n
   ·exact .inr e
   ·simp [e]) (fun x hx'=>by simp only [Blk.gen] at hx';rw [hMN] at hx';cases hx') (.inl rfl)
  ⟨hl,he,_,cap,hM',hn,hm,.inr ⟨w.heap.size,0,cs,rfl,h.F_none (Nat.le_refl _),hnew,by omega,hC.mono hx⟩⟩
  (fun g ⟨o,cap',es',hm,_⟩=>by simp only [Blk.gen] at hm;rw [hM'] at hm;cases hm;exact .inl (Nat.le_refl _))
  (fun t _=>hMN t)
 rw [bqk] at st
 exact ⟨N,M',hH,st.1,st.2,hM'⟩
theorem Rel.newArr0 {w:World} {F:Ft} {M:Mt} {H:Heap} (h:Rel w0 w F M H) (es:Nat) (e:TypeId) (he:0<es) (a:Option Addr):
  ∃ r M',H r=none/\Ext F F M M'/\Rel w0 w F M' (upd H r (some (.arr es e [] 0)))/\M' r 0=some (a,0,es):=by
 obtain ⟨N,hN⟩:=h.fresh
 have hH:=(hN N (Nat.le_refl _)).1
 have hMN:=(hN N (Nat.le_refl _)).2
 let M':Mt:=fun s t=>if s=N/\t=0 then some (a,0,es) else M s t
 have hM':M' N 0=some (a,0,es):=by simp [M']
 have hx:Ext F F M M':=⟨fun _ _ h=>h,fun s t y hy=>by
  simp only [M']
  split
  ·rename_i e;rw [e.1,hMN] at hy;cases hy
  ·exact hy⟩
 have st:=h.step (w':=w) (M':=M') N N (.arr es e [] 0) rfl rfl rfl
  (fun b hb _=>rfl) (fun s t=>by
   simp only [M',Blk.gen]
   by_cases e:s=N/\t=0
   ·exact .inr e
   ·simp [e]) (fun x hx'=>by simp only [Blk.gen] at hx';rw [hMN] at hx';cases hx') (.inl rfl)
  ⟨by simp,he,_,0,hM',Nat.le_refl _,Nat.zero_le _,.inl rfl⟩
  (fun g ⟨o,cap',es',hm,hc⟩=>by simp only [Blk.gen] at hm;rw [hM'] at hm;cases hm;exact absurd rfl (hc rfl))
  (fun t _=>hMN t)
 rw [bqk] at st
 exact ⟨N,M',hH,st.1,st.2,hM'⟩
def fqu (P:Program) (H:Heap) (t:TypeId) (K:AV->Heap->Prop):Prop:=
 match slE P t with
 | some e=>0<sz P e/\∀ r,H r=none->K (.ref r 0 0 0) (upd H r (some (.arr (sz P e) e [] 0)))
 | none=>False
theorem ok_nilOwn {o:Oper} {env:Env} {H:Heap} {K:Env->Heap->Prop} {x:Operand} (ho:o.op= .move x\/o.op= .assign x) (hx:kql (evO env x)=true)
  (h:fqu P H o.type (fun v H'=>putK nt o.dst v env (fun env'=>K env' H'))):OpOK P w0 nt o env H K:=by
 refine bq6 fun w F M a r er=> ?_
 have hv:=er.ev x
 unfold fqu at h
 split at h
 ·rename_i e hs
  obtain ⟨hz,k⟩:=h
  obtain ⟨rr,M',hr,hxx,hrel,hM'⟩:=r.newArr0 (sz P e) e hz none
  have hcv:a.eval x= .slice none 0 0:=by
   unfold kql at hx
   split at hx
   ·rename_i e1;rw [e1] at hv;exact hv.sc_inv
   ·cases hx
  exact ⟨.slice none 0 0,w,.ref rr 0 0 0,_,F,M',by rcases ho with ho | ho<;>simp [execOp,ho,hcv],hxx,hrel,.ref hM' (Nat.le_refl _) (Nat.le_refl _) (.inl rfl),k rr hr⟩
 ·exact h.elim
def bqi (P:Program) (H:Heap) (own:Bool) (t:TypeId) (len:Nat) (parts:List (Nat×AV)) (K:AV->Heap->Prop):Prop:=
 match slE P t with
 | some e=>0<sz P e/\len*sz P e<=16777216/\
  match zer P e with
  | some zs=>zs.all Value.oneCell'=true/\zs.length=sz P e/\
   jql (fun i=>some (i*sz P e,sz P e)) (zrep zs (len*sz P e)) parts (fun cells=>
    if own then ∀ r,H r=none->K (.ref r 0 len len) (upd H r (some (.arr (sz P e) e cells len)))
    else K (.sl cells len) H)
  | none=>False
 | none=>False
theorem hq2 {o:Oper} {env:Env} {H:Heap} {K:Env->Heap->Prop} {t:TypeId} {len:Nat} {parts:Array (Nat×Operand)} (own:Bool) (ho:o.op= .buildSlice t len parts)
  (h:bqi P H own t len (parts.toList.map fun p=>(p.1,evO env p.2)) (fun v H'=>putK nt o.dst v env (fun env'=>K env' H'))):OpOK P w0 nt o env H K:=by
 refine bq6 fun w F M a r er=> ?_
 unfold bqi at h
 split at h
 ·rename_i e hs
  have hu:=dq7 hs
  obtain ⟨hz,hbig,h⟩:=h
  split at h
  ·rename_i zs hzs
   obtain ⟨i,z,hi,hzz,hcs⟩:=jqy hzs
   obtain ⟨hone,hlen,h⟩:=h
   have hne:zs≠[]:=by intro e0;rw [e0] at hlen;simp at hlen;omega
   have hC0:VRC F M (zrep zs (len*sz P e)) (madeCells z.cells (len*sz P e)) 0:=jqw F M hone _ (.inl hne) hcs
   have hcells:=fun (K':List AV->Prop) (h:jql (fun i=>some (i*sz P e,sz P e)) (zrep zs (len*sz P e)) (parts.toList.map fun p=>(p.1,evO env p.2)) K')=>
    fillA_ok (F:=F) (M:=M) _ (parts.toList.map fun p=>(p.1,a.eval p.2)) _ _ (by simp) (fun j n av hj=>by
     simp only [List.getElem?_map] at hj ⊢
     cases hp:parts.toList[j]? with
     | none=>simp [hp] at hj
     | some p=>
      simp [hp] at hj
      obtain ⟨rfl,rfl⟩:=hj
      exact ⟨a.eval p.2,by simp,er.ev p.2⟩) hC0 (by rw [size_madeCells,cqp]) h
   obtain ⟨cells',cs',h1,h2,h3,h4,k⟩:=hcells _ h
   rw [cqp] at h4
   have hrun:(execOp a.eval o).run P w= .ok (.value (.slice (some ⟨w.heap.size,0,none⟩) len len)) (w.alloc (.cells cs' e)):=by
    have hb:¬(16777216<len*sz P e):=by omega
    by_cases h0:len=0
    ·subst h0
     have hmk:madeCells z.cells (0*sz P e)= #[]:=by simp [madeCells]
     rw [hmk] at h1
     have hr0:Array.range 0= #[]:=rfl
     simp [execOp,ho,Instr.buildSlice,run_underlying hu,aq0 hz,hr0,h1,newRow]
    ·have h2:¬(len*sz P e=0):=by
      intro h3
      rcases Nat.mul_eq_zero.1 h3 with h3 | h3<;>omega
     have hzv:(zeroValue e).run P w= .ok z w:=by simp [zeroValue,typeInfo,hi,hzz]
     have hb':¬(len*sz P e>2^24):=by omega
     simp only [madeCells] at h1
     simp only [execOp,ho,Instr.buildSlice,Sem.run_bind,run_underlying hu,Result.andThen_ok,aq0 hz,if_neg hb',if_neg h2,hzv,Sem.run_pure,Array.toList_map,h1,newRow,run_newObj,World.alloc_eq]
   cases own
   ·simp only [Bool.false_eq_true,if_false] at k
    obtain ⟨hx,hrel⟩:=r.newF (.cells cs' e)
    obtain ⟨ff,g1,g2,g3⟩:=(h2.mono hx).fn
    exact ⟨_,_,.sl cells' len,H,_,M,hrun,hx,hrel,.sl (o:=0) ff (aqj _ _ _) (Nat.le_refl _) g1 g2 g3,k⟩
   ·simp only [if_true] at k
    have hlen24:len<=16777216:=Nat.le_trans (Nat.le_mul_of_pos_right _ hz) hbig
    obtain ⟨rr,M',hr,hxx,hrel,hM'⟩:=r.newArr (sz P e) e cells' len len cs' h2 h4 hz (Nat.le_refl _) (by unfold maxLen;omega) (by omega)
    exact ⟨_,_,.ref rr 0 len len,_,F,M',hrun,hxx,hrel,.ref hM' (Nat.le_refl _) (by omega) (.inr ⟨w.heap.size,0,rfl,by simp⟩),k rr hr⟩
  ·exact h.elim
 ·exact h.elim
def dqt (P:Program) (H:Heap) (t:TypeId) (l c:AV) (K:AV->Heap->Prop):Prop:=
 match l,c with
 | .sc (.int _ l),.sc (.int _ c)=>
  match slE P t with
  | some e=>0<sz P e/\0<=l/\l<=c/\c<=9223372036854775807/\(byt P e:Int)*c<=281474976710656/\
   match zer P e with
   | some zs=>zs.all Value.oneCell'=true/\zs.length=sz P e/\
    ∀ r,H r=none->K (.ref r 0 l.toNat l.toNat) (upd H r (some (.arr (sz P e) e (zrep zs (l.toNat*sz P e)) l.toNat)))
   | none=>False
  | none=>False
 | _,_=>False
theorem zrep_get (zs:List Value) {m n i:Nat} {av:AV} (hmn:m<=n) (h:(zrep zs m)[i]? =some av):(zrep zs n)[i]? =some av:=by
 have hi:i<m:=by have:=(List.getElem?_eq_some_iff.1 h).1;simpa [cqp] using this
 simp only [zrep,List.getElem?_map] at h ⊢
 rw [List.getElem?_range (by omega)] at h ⊢
 exact h
theorem ok_makeSlice {o:Oper} {env:Env} {H:Heap} {K:Env->Heap->Prop} {t:TypeId} {l c:Operand} (ho:o.op= .makeSlice t l c)
  (h:dqt P H t (evO env l) (evO env c) (fun v H'=>putK nt o.dst v env (fun env'=>K env' H'))):OpOK P w0 nt o env H K:=by
 refine bq6 fun w F M a r er=> ?_
 have hl:=er.ev l
 have hc:=er.ev c
 unfold dqt at h
 split at h
 ·rename_i kl lv kc cv e1 e2
  rw [e1] at hl;rw [e2] at hc
  split at h
  ·rename_i e hs
   have hu:=dq7 hs
   obtain ⟨hz,h0,hlc,h63,hby,h⟩:=h
   split at h
   ·rename_i zs hzs
    obtain ⟨i,z,hi,hzz,hcs⟩:=jqy hzs
    obtain ⟨i',hi',hisz,hiby⟩:=jq5 hz
    rw [hi] at hi';cases hi'
    obtain ⟨hone,hlen,k⟩:=h
    have hne:zs≠[]:=by intro e0;rw [e0] at hlen;simp at hlen;omega
    have hC0:VRC F M (zrep zs (cv.toNat*sz P e)) (madeCells z.cells (cv.toNat*sz P e)) 0:=jqw F M hone _ (.inl hne) hcs
    have hle:lv.toNat*sz P e<=cv.toNat*sz P e:=Nat.mul_le_mul_right _ (by omega)
    have hC1:VRC F M (zrep zs (lv.toNat*sz P e)) (madeCells z.cells (cv.toNat*sz P e)) 0:=fun j av hj=>hC0 j av (zrep_get zs hle hj)
    have hr:=run_make (P:=P) w t e i z hu hi hzz kl kc lv cv h0 hlc (by rw [hiby];exact hby) h63
    rw [hisz] at hr
    obtain ⟨rr,M',hrn,hxx,hrel,hM'⟩:=r.newArr (sz P e) e _ lv.toNat cv.toNat _ hC1 (cqp _ _) hz (by omega) (by unfold maxLen;omega) (by rw [size_madeCells];exact Nat.le_refl _)
    exact ⟨.slice (some ⟨w.heap.size,0,none⟩) lv.toNat cv.toNat,_,.ref rr 0 lv.toNat lv.toNat,_,F,M',by simp [execOp,ho,hl.sc_inv,hc.sc_inv,hr],hxx,hrel,.ref hM' (by omega) (by omega) (.inr ⟨w.heap.size,0,rfl,by simp⟩),k rr hrn⟩
   ·exact h.elim
  ·exact h.elim
 ·exact h.elim
theorem kqa {w:World} {F:Ft} {M:Mt} {H:Heap} {x:AV} {cv:Value} {es m:Nat} {cells:List AV} (r:Rel w0 w F M H) (hv:VR F M x cv) (hl:gqi x=some m) (hc:dqy H es x=some cells):
  ∃ b c,cv= .slice b m c/\m<=c/\∃ news:List Value,VRL F M cells news/\(∀ (i:Nat) (y:AV),cells[i]? =some y->y.one=true)/\cells.length=m*es/\
   (∀ w':World,w'.heap=w.heap->(Builtin.firstCells es m (.slice b m c)).run P w'= .ok news.toArray w')/\
   (∀ j v,news[j]? =some v->∃ ad,b=some ad/\w.cell? (ad.add j)=some v):=by
 have rowcase:∀ (sub:List AV) (g o:Nat) (cs:Array Value) (e:TypeId) (fz:Nat×Nat) (c:Nat),w.heap[g]? =some (.cells cs e fz)->VRC F M sub cs o->sub.length=m*es->
   ∃ news:List Value,VRL F M sub news/\(∀ (i:Nat) (y:AV),sub[i]? =some y->y.one=true)/\sub.length=m*es/\
    (∀ w':World,w'.heap=w.heap->(Builtin.firstCells es m (.slice (some ⟨g,o,none⟩) m c)).run P w'= .ok news.toArray w')/\
    (∀ j v,news[j]? =some v->∃ ad,some (⟨g,o,none⟩:Addr)=some ad/\w.cell? (ad.add j)=some v):=by
  intro sub g o cs e fz c hg hC hlen
  obtain ⟨f,h1,h2,h3⟩:=hC.fn
  have hcell:∀ (w':World),w'.heap=w.heap->∀ j v,((List.range sub.length).map f)[j]? =some v->w'.cell? ((⟨g,o,none⟩:Addr).add j)=some v:=by
   intro w' hw j v hj
   have hi:j<sub.length:=by have:=(List.getElem?_eq_some_iff.1 hj).1;simpa using this
   simp only [List.getElem?_map,List.getElem?_range hi,Option.map_some,Option.some.injEq] at hj
   rw [cqe]
   have hj':=h1 j sub[j] (by simp [hi])
   rw [hj] at hj'
   exact cell_of (w:=w') (by rw [hw];exact hg) hj'
  refine ⟨(List.range sub.length).map f,⟨by simp,?_⟩,h3,hlen,?_,fun j v hj=>⟨_,rfl,hcell w rfl j v hj⟩⟩
  ·intro i av cv' ha hb
   have hi:i<sub.length:=(List.getElem?_eq_some_iff.1 ha).1
   simp only [List.getElem?_map,List.getElem?_range hi,Option.map_some,Option.some.injEq] at hb
   subst hb;exact h2 i av ha
  ·intro w' hw
   exact run_firstCells_some w' es m _ m c _ (by simp [hlen]) (hcell w' hw)
 have nilcase:m=0->cells=[]->∀ (b:Option Addr) (c:Nat),∃ news:List Value,VRL F M cells news/\(∀ (i:Nat) (y:AV),cells[i]? =some y->y.one=true)/\cells.length=m*es/\
    (∀ w':World,w'.heap=w.heap->(Builtin.firstCells es m (.slice b m c)).run P w'= .ok news.toArray w')/\
    (∀ j v,news[j]? =some v->∃ ad,b=some ad/\w.cell? (ad.add j)=some v):=by
  intro h0 h1 b c
  subst h0 h1
  refine ⟨[],VRL.nil,by simp,by simp,fun w' _=> ?_,by simp⟩
  cases b<;>simp [Builtin.firstCells,loadCells,loadCellsFrom]
 have subC:∀ (cells0:List AV) (k n:Nat) (cs:Array Value) (o:Nat),VRC F M cells0 cs o->VRC F M ((cells0.drop k).take n) cs (o+k):=by
  intro cells0 k n cs o hC i av hi
  rw [List.getElem?_take] at hi
  split at hi
  ·rw [List.getElem?_drop] at hi
   obtain ⟨p,cv',q,s⟩:=hC _ _ hi
   exact ⟨p,cv',by rw [Nat.add_assoc];exact q,s⟩
  ·cases hi
 unfold gqi at hl
 unfold dqy at hc
 split at hl<;>try (cases hl;done)
 ·-- sl
  rename_i cells0 n
  cases hl
  simp only at hc
  split at hc
  ·rename_i hfit
   cases hc
   obtain ⟨b,c,rfl,hnc,hcase⟩:=hv.sl_inv
   refine ⟨b,c,rfl,hnc,?_⟩
   rcases hcase with ⟨rfl,rfl⟩ | ⟨g,o,cs,e,fz,rfl,hF,hC⟩
   ·exact nilcase rfl (by simp) b c
   ·have:=subC cells0 0 (m*es) cs o hC
    simp only [List.drop_zero,Nat.add_zero] at this
    exact rowcase _ g o cs e fz c (r.hF _ _ hF) this (by simp;omega)
  ·cases hc
 ·-- csl
  rename_i cells0 n
  cases hl
  simp only at hc
  split at hc
  ·rename_i hfit
   cases hc
   obtain ⟨b,rfl,hcase⟩:=hv.csl_inv
   refine ⟨b,_,rfl,Nat.le_refl _,?_⟩
   rcases hcase with ⟨rfl,rfl⟩ | ⟨g,o,cs,e,fz,rfl,hF,hC⟩
   ·exact nilcase rfl (by simp) b _
   ·have:=subC cells0 0 (m*es) cs o hC
    simp only [List.drop_zero,Nat.add_zero] at this
    exact rowcase _ g o cs e fz _ (r.hF _ _ hF) this (by simp;omega)
  ·cases hc
 ·-- ref
  rename_i rr off n top
  cases hl
  simp only at hc
  split at hc
  ·rename_i es' e' cells0 n' hH
   split at hc
   ·rename_i hcond
    obtain ⟨rfl,rfl,hfit⟩:=hcond
    cases hc
    obtain ⟨b,c,a,cap,es2,rfl,hnc,hoc,hM,hcase⟩:=hv.ref_inv
    refine ⟨b,c,rfl,hnc,?_⟩
    by_cases h0:m=0
    ·refine nilcase h0 (by rw [h0];simp) b c
    ·obtain ⟨h1,h2,a2,cap2,hM2,h4,h5,h6⟩:=r.blk rr _ hH
     rw [hM] at hM2;cases hM2
     rcases hcase with hc0 | ⟨g,o,rfl,rfl⟩
     ·omega
     ·rcases h6 with h6 | ⟨g',o',cs,e1,h7,h8,h9,h10⟩
      ·omega
      ·cases e1
       have hs:=subC cells0 (off*es') (m*es') cs o h10
       refine rowcase _ g _ cs e' (0,0) c h8 hs ?_
       rw [Nat.add_mul] at hfit
       simp;omega
   ·cases hc
  ·cases hc
 ·-- cref
  rename_i rr off n top
  cases hl
  simp only at hc
  split at hc
  ·rename_i es' e' cells0 n' hH
   split at hc
   ·rename_i hcond
    obtain ⟨rfl,rfl,hfit⟩:=hcond
    cases hc
    obtain ⟨b,a,cap,es2,rfl,hoc,hM,hcase⟩:=hv.cref_inv
    refine ⟨b,_,rfl,Nat.le_refl _,?_⟩
    by_cases h0:m=0
    ·refine nilcase h0 (by rw [h0];simp) b _
    ·obtain ⟨h1,h2,a2,cap2,hM2,h4,h5,h6⟩:=r.blk rr _ hH
     rw [hM] at hM2;cases hM2
     rcases hcase with hc0 | ⟨g,o,rfl,rfl⟩
     ·omega
     ·rcases h6 with h6 | ⟨g',o',cs,e1,h7,h8,h9,h10⟩
      ·omega
      ·cases e1
       have hs:=subC cells0 (off*es') (m*es') cs o h10
       refine rowcase _ g _ cs e' (0,0) _ h8 hs ?_
       rw [Nat.add_mul] at hfit
       simp;omega
   ·cases hc
  ·cases hc
 ·-- nil
  cases hl
  simp only at hc
  cases hc
  have:=hv.sc_inv
  subst this
  exact ⟨none,0,rfl,Nat.le_refl _,nilcase rfl rfl none 0⟩
end
end Go.Am
namespace Go.Am
open Go
section
variable {P:Program} {w0:World} {nt:Nat}
def iq1 (P:Program) (H:Heap) (t1 t2:TypeId) (s x:AV) (K:AV->Heap->Prop):Prop:=
 match slE P t1,slE P t2 with
 | some e,some _=>0<sz P e/\(zer P e).map List.length=some (sz P e)/\
  match gqi x,dqy H (sz P e) x with
  | some m,some new=>
   match s with
   | .ref r off n top=>(n+m)*byt P e<=140737488355328/\n+m<=4611686018427387904/\match H r with
    | some (.arr es e' cells n')=>n'=top/\es=sz P e/\e'=e/\off+n<=top/\
     (if off=0/\n=top then K (.ref r 0 (n+m) (n+m)) (upd H r (some (.arr es e (cells++new) (n+m))))
      else ∀ r',H r'=none->K (.ref r' 0 (n+m) (n+m)) (upd (upd H r none) r' (some (.arr es e ((cells.drop (off*es)).take (n*es)++new) (n+m)))))
    | _=>False
   | s=>match gqi s,dqy H (sz P e) s with
    | some n,some old=>(∀ cells k,s≠ .sl cells k)/\(m=0->n=0)/\(n+m)*byt P e<=140737488355328/\n+m<=4611686018427387904/\
     ∀ r',H r'=none->K (.ref r' 0 (n+m) (n+m)) (upd H r' (some (.arr (sz P e) e (old++new) (n+m))))
    | _,_=>False
  | _,_=>False
 | _,_=>False
theorem hqq {t1 t2 ty e e2:TypeId} (h1:P.underlying t1=some (.slice e)) (h2:P.underlying t2=some (.slice e2)) (hz:0<sz P e) {w:World} {x:Value} {n c m c2:Nat} {b2:Option Addr} {news:List Value}
  (hx:x= .slice b2 m c2) (hnews:∀ w':World,w'.heap=w.heap->(Builtin.firstCells (sz P e) m x).run P w'= .ok news.toArray w') (hroom:n+m<=c)
  {g o:Nat} {cur:Array Value} (hg:w.heap[g]? =some (.cells cur e (0,0))) (hl:news.length=m*sz P e) (hfit:o+(n+m)*sz P e<=cur.size) (h1c:∀ u∈news,u.oneCell'=true):
  (Builtin.append_ #[t1,t2] ty #[.slice (some ⟨g,o,none⟩) n c,x]).run P w=
   .ok (.slice (some ⟨g,o,none⟩) (n+m) c) (w.setRow g (cur.toList.take (o+n*sz P e)++news++cur.toList.drop (o+n*sz P e+news.length)).toArray):=by
 subst hx
 rw [Nat.add_mul] at hfit
 have hst:=run_storeCells_at P g (o+n*sz P e) e news 0 cur w hg (by omega) h1c
 simp only [Nat.add_zero] at hst
 have hn:=hnews w rfl
 simp [Builtin.append_,run_underlying h1,run_underlying h2,aq0 hz,Builtin.lenOf,hroom,hn,cqe,hst]
theorem cqv {t1 t2 ty e e2:TypeId} (h1:P.underlying t1=some (.slice e)) (h2:P.underlying t2=some (.slice e2)) (hz:0<sz P e) {w:World} {x:Value} {n c c2:Nat} {b b2:Option Addr}
  (hx:x= .slice b2 0 c2) (hnews:∀ w':World,w'.heap=w.heap->(Builtin.firstCells (sz P e) 0 x).run P w'= .ok #[] w') (hroom:n<=c):
  (Builtin.append_ #[t1,t2] ty #[.slice b n c,x]).run P w= .ok (.slice b n c) w:=by
 subst hx
 have hn:=hnews w rfl
 cases b<;>simp [Builtin.append_,run_underlying h1,run_underlying h2,aq0 hz,Builtin.lenOf,hroom,hn,storeCells]
theorem eqh {t1 t2 ty e e2:TypeId} {i:TypeInfo} {z:Value} (h1:P.underlying t1=some (.slice e)) (h2:P.underlying t2=some (.slice e2)) (hi:P.info? e=some i) (hz:i.zero=some z) {w:World} {x:Value} {n c m c2:Nat} {b b2:Option Addr} {olds news:List Value}
  (hx:x= .slice b2 m c2) (hnews:∀ w':World,w'.heap=w.heap->(Builtin.firstCells i.size m x).run P w'= .ok news.toArray w')
  (holds:∀ w':World,w'.heap=w.heap->(Builtin.firstCells i.size n (.slice b n c)).run P w'= .ok olds.toArray w')
  (hg:c<n+m) (h63:n+m<=4611686018427387904) (hfit:(n+m)*i.bytes<=140737488355328):
  (Builtin.append_ #[t1,t2] ty #[.slice b n c,x]).run P w=
   .ok (.slice (some ⟨w.heap.size,0,none⟩) (n+m) (grownCap w (n+m) c e)) (w.drew.alloc (.cells (olds.toArray++news.toArray++Builtin.zeroCells z.cells (grownCap w (n+m) c e-(n+m))) e)):=by
 subst hx
 have hn:¬(n+m<=c):=by omega
 have h63':¬(9223372036854775807<((n:Int)+(m:Int))):=by omega
 have h48:=growslice_fits (need:=n+m) (old:=c) hg hfit
 have h48':¬(281474976710656<Builtin.nextslicecap (n+m) c*i.bytes):=by omega
 have hf:=hnews w.drew rfl
 have hfo:=holds w.drew rfl
 simp [Builtin.append_,run_underlying h1,run_underlying h2,sizeOf,typeInfo,zeroValue,hi,hz,Builtin.lenOf,hn,h63',h48',Question.forced,hf,hfo,newRow,grownCap]
 congr 2
 apply Array.ext'
 simp [List.append_assoc]
theorem VRC_row {F:Ft} {M:Mt} {A B:List AV} {ca cb:List Value} (ha:VRL F M A ca) (hb:VRL F M B cb) (h1:∀ (i:Nat) (y:AV),A[i]? =some y->y.one=true) (h2:∀ (i:Nat) (y:AV),B[i]? =some y->y.one=true) (z:Array Value):
  VRC F M (A++B) (ca.toArray++cb.toArray++z) 0:=by
 intro i av hi
 have hab:=ha.append hb
 obtain ⟨cv,hcv,hv⟩:=hab.get hi
 refine ⟨?_,cv,?_,hv⟩
 ·rw [List.getElem?_append] at hi
  split at hi
  ·exact h1 _ _ hi
  ·exact h2 _ _ hi
 ·have hlt:i<(ca++cb).length:=(List.getElem?_eq_some_iff.1 hcv).1
  rw [Nat.zero_add,Array.getElem?_append_left (by simpa using hlt)]
  rw [<-hcv];simp [<-Array.getElem?_toList]
def AppRes (P:Program) (w0 w:World) (F:Ft) (M:Mt) (t1 t2 ty:TypeId) (cs cx:Value) (K:AV->Heap->Prop):Prop:=
 ∃ cv w' v H' F' M',(Builtin.append_ #[t1,t2] ty #[cs,cx]).run P w= .ok cv w'/\Ext F F' M M'/\Rel w0 w' F' M' H'/\VR F' M' v cv/\K v H'
theorem append_whole {w:World} {F:Ft} {M:Mt} {H:Heap} {t1 t2 ty e e2:TypeId} {i:TypeInfo} {z:Value} {m c2:Nat} {b2:Option Addr} {new:List AV} {news:List Value} {K:AV->Heap->Prop}
  (r:Rel w0 w F M H) (hu1:P.underlying t1=some (.slice e)) (hu2:P.underlying t2=some (.slice e2)) (hz:0<sz P e) (hi:P.info? e=some i) (hzz:i.zero=some z) (hzc:z.cells.size=sz P e)
  (hisz:i.size=sz P e) (hiby:i.bytes=byt P e) (hvn:VRL F M new news) (h1n:∀ (i:Nat) (y:AV),new[i]? =some y->y.one=true) (hln:new.length=m*sz P e)
  (hnews:∀ w':World,w'.heap=w.heap->(Builtin.firstCells (sz P e) m (.slice b2 m c2)).run P w'= .ok news.toArray w')
  {rr n:Nat} {cells:List AV} {cv:Value} (hs:VR F M (.ref rr 0 n n) cv) (hH:H rr=some (.arr (sz P e) e cells n)) (hby:(n+m)*byt P e<=140737488355328) (h63:n+m<=4611686018427387904)
  (h:K (.ref rr 0 (n+m) (n+m)) (upd H rr (some (.arr (sz P e) e (cells++new) (n+m))))):AppRes P w0 w F M t1 t2 ty cv (.slice b2 m c2) K:=by
 have hnlen:news.length=m*sz P e:=by rw [<-hvn.1,hln]
 have hone:=kqe hvn h1n
 obtain ⟨b,c,ab,cap,es0,rfl,hnc,hoc,hM,hcase⟩:=hs.ref_inv
 obtain ⟨hb1,hb2,a2,cap2,hM2,hb4,hb5,hb6⟩:=r.blk rr _ hH
 rw [hM] at hM2;cases hM2
 have hcapmax:c<=maxLen:=by omega
 have hallc:(cells.drop (0*sz P e)).take (n*sz P e)=cells:=by
  rw [Nat.zero_mul,List.drop_zero,<-hb1,List.take_length]
 have hsrc:=kqa (P:=P) (es:=sz P e) (m:=n) (cells:=cells) r hs rfl (by
  have hfit:(0+n)*sz P e<=cells.length:=by rw [Nat.zero_add,hb1];exact Nat.le_refl _
  simp only [dqy,hH]
  rw [if_pos ⟨trivial,trivial,hfit⟩,hallc])
 obtain ⟨bo,co,hcvo,_,olds,hvo,h1o,hlo,holds,_⟩:=hsrc
 cases hcvo
 have inplace:n+m<=c->0<m->∃ g o' cs,ab=some ⟨g,o',none⟩/\b=some ⟨g,o'+0*sz P e,none⟩/\F g=none/\w.heap[g]? =some (.cells cs e (0,0))/\o'+cap*sz P e<=cs.size/\VRC F M cells cs o':=by
  intro h1 h2
  rcases hcase with hc0 | ⟨g,o',rfl,rfl⟩
  ·omega
  ·rcases hb6 with hb6 | ⟨g',o2,cs,e1,h7,h8,h9,h10⟩
   ·omega
   ·cases e1
    exact ⟨g,o',cs,rfl,rfl,h7,h8,h9,h10⟩
 rw [<-bqk] at h
 have hgens:∀ t,n+m<t->M rr t=none:=fun t ht=>r.gens rr _ hH t (by show n<t;omega)
 let k':Blk:= .arr (sz P e) e (cells++new) (n+m)
 have hkl:(cells++new).length=(n+m)*sz P e:=by rw [List.length_append,hb1,hln,Nat.add_mul]
 by_cases hm0:m=0
 ·-- nothing is appended
  subst hm0
  have hnews0:news=[]:=List.eq_nil_of_length_eq_zero (by omega)
  have hnew0:new=[]:=List.eq_nil_of_length_eq_zero (by omega)
  subst hnews0 hnew0
  have hrun:=cqv (P:=P) (ty:=ty) hu1 hu2 hz (w:=w) (b:=b) (n:=n) (c:=c) rfl (by simpa using hnews) hnc
  have hself:upd (upd H rr none) rr (some (.arr (sz P e) e (cells++[]) (n+0)))=H:=by
   rw [bqk,List.append_nil,Nat.add_zero,<-hH,hqb]
  rw [hself] at h
  exact ⟨_,w,_,H,F,M,hrun,Ext.refl _ _,r,.ref (c:=c) hM (by omega) hoc hcase,h⟩
 ·have hm:0<m:=by omega
  by_cases hroom:n+m<=c
  ·obtain ⟨g,o',cs,rfl,rfl,hFg,hg,hfitc,hC⟩:=inplace hroom hm
   have hcc:(n+m)*sz P e<=cap*sz P e:=Nat.mul_le_mul_right _ (by omega)
   have hrun:=hqq (P:=P) (ty:=ty) (t1:=t1) (t2:=t2) hu1 hu2 hz (w:=w) (n:=n) (c:=c) rfl hnews hroom (o:=o'+0*sz P e) hg hnlen (by omega) hone
   simp only [Nat.zero_mul,Nat.add_zero] at hrun
   have hown:Owns M rr (.arr (sz P e) e cells n) g:=⟨o',cap,sz P e,hM,fun _=>by omega⟩
   let M':Mt:=fun s t=>if s=rr/\t=n+m then some (some ⟨g,o',none⟩,c,sz P e) else M s t
   have hM':M' rr (n+m)=some (some ⟨g,o',none⟩,c,sz P e):=by simp [M']
   have hnone:M rr (n+m)=none:=r.gens rr _ hH _ (by simp [Blk.gen];omega)
   have hx':Ext F F M M':=⟨fun _ _ h=>h,fun s t y hy=>by
    simp only [M']
    split
    ·rename_i e;rw [e.1,e.2,hnone] at hy;cases hy
    ·exact hy⟩
   generalize hcs':(cs.toList.take (o'+n*sz P e)++news++cs.toList.drop (o'+n*sz P e+news.length)).toArray=cs' at hrun
   have hsz':cs'.size=cs.size:=by rw [<-hcs'];rw [Nat.add_mul] at hcc;simp;omega
   have hC':VRC F M (cells++new) cs' o':=by
    have h0:VRC F M (cells++new) (cs.toList.take (o'+n*sz P e)++news++cs.toList.drop (o'+n*sz P e+news.length)).toArray o':=by
     intro j av hj
     rw [List.getElem?_append] at hj
     rw [Nat.add_mul] at hcc
     have htk:(cs.toList.take (o'+n*sz P e)).length=o'+n*sz P e:=by simp;omega
     by_cases hjl:j<cells.length
     ·rw [if_pos hjl] at hj
      obtain ⟨p,cv,q,s⟩:=hC j av hj
      refine ⟨p,cv,?_,s⟩
      simp only [List.getElem?_toArray,List.append_assoc]
      rw [List.getElem?_append_left (by omega),List.getElem?_take,if_pos (by omega)]
      simpa using q
     ·rw [if_neg hjl] at hj
      obtain ⟨cv,q,s⟩:=hvn.get hj
      have hjn:j-cells.length<news.length:=(List.getElem?_eq_some_iff.1 q).1
      refine ⟨h1n _ _ hj,cv,?_,s⟩
      simp only [List.getElem?_toArray,List.append_assoc]
      rw [List.getElem?_append_right (by omega),htk,List.getElem?_append_left (by omega),<-q]
      congr 1;omega
    rw [hcs'] at h0;exact h0
   have st:=r.step (w':=w.setRow g cs') (M':=M') rr rr k' rfl rfl rfl
    (fun bb hbb hno=>setRow_other w g bb cs' (fun e0=>by subst e0;exact hno _ hH hown))
    (fun s t=>by
     simp only [M',k',Blk.gen]
     by_cases e:s=rr/\t=n+m
     ·exact .inr e
     ·simp [e])
    (fun x hx0=>by simp only [k',Blk.gen] at hx0;rw [hnone] at hx0;cases hx0) (.inl rfl)
    ⟨hkl,hz,_,c,hM',hroom,hcapmax,.inr ⟨g,o',cs',rfl,hFg,setRow_heap w g cs cs' e (0,0) hg,by
     have:c*sz P e<=cap*sz P e:=Nat.mul_le_mul_right _ (by omega)
     omega,hC'.mono hx'⟩⟩
    (fun g' ⟨o3,cap',es',hm3,_⟩=>by simp only [k',Blk.gen] at hm3;rw [hM'] at hm3;cases hm3;exact .inr ⟨_,hH,hown⟩)
    (fun t ht=>hgens t ht)
   simp only [Nat.zero_mul,Nat.add_zero]
   exact ⟨_,_,_,_,F,M',hrun,st.1,st.2,.ref hM' hroom (by omega) (.inr ⟨g,o',rfl,by simp⟩),h⟩
  ·-- a new row
   have hgr:c<n+m:=by omega
   have hrun:=eqh (P:=P) (ty:=ty) (t1:=t1) (t2:=t2) hu1 hu2 hi hzz (w:=w) (b:=b) (n:=n) (c:=c) rfl (by rw [hisz];exact hnews) (by rw [hisz];exact holds) hgr h63 (by rw [hiby];exact hby)
   have hge:=grownCap_ge w (n+m) c e
   have hcm:=grownCap_le_maxLen w (n+m) c e (by unfold maxLen;omega)
   generalize hcp:grownCap w (n+m) c e=cp at hrun hge hcm
   let M':Mt:=fun s t=>if s=rr/\t=n+m then some (some ⟨w.heap.size,0,none⟩,cp,sz P e) else M s t
   have hM':M' rr (n+m)=some (some ⟨w.heap.size,0,none⟩,cp,sz P e):=by simp [M']
   have hnone:M rr (n+m)=none:=r.gens rr _ hH _ (by simp [Blk.gen];omega)
   have hx':Ext F F M M':=⟨fun _ _ h=>h,fun s t y hy=>by
    simp only [M']
    split
    ·rename_i e;rw [e.1,e.2,hnone] at hy;cases hy
    ·exact hy⟩
   have hC':=VRC_row hvo hvn h1o h1n (Builtin.zeroCells z.cells (cp-(n+m)))
   generalize hcs':(olds.toArray++news.toArray++Builtin.zeroCells z.cells (cp-(n+m)))=cs' at hrun hC'
   have hsz':cs'.size=cp*sz P e:=by
    rw [<-hcs']
    simp only [Array.size_append,List.size_toArray,size_zeroCells,hzc,<-hvo.1,<-hvn.1,hb1,hln,<-Nat.add_mul]
    congr 1;omega
   have hnewh:(w.drew.alloc (.cells cs' e)).heap[w.heap.size]? =some (.cells cs' e):=kqs w.drew _
   have st:=r.step (w':=w.drew.alloc (.cells cs' e)) (M':=M') rr rr k' rfl rfl rfl
    (fun bb hbb _=>kqr w.drew _ bb hbb)
    (fun s t=>by
     simp only [M',k',Blk.gen]
     by_cases e:s=rr/\t=n+m
     ·exact .inr e
     ·simp [e])
    (fun x hx0=>by simp only [k',Blk.gen] at hx0;rw [hnone] at hx0;cases hx0) (.inl rfl)
    ⟨hkl,hz,_,cp,hM',hge,hcm,.inr ⟨w.heap.size,0,cs',rfl,r.F_none (Nat.le_refl _),hnewh,by omega,hC'.mono hx'⟩⟩
    (fun g' ⟨o3,cap',es',hm3,_⟩=>by simp only [k',Blk.gen] at hm3;rw [hM'] at hm3;cases hm3;exact .inl (Nat.le_refl _))
    (fun t ht=>hgens t ht)
   exact ⟨_,_,_,_,F,M',hrun,st.1,st.2,.ref hM' hge (by omega) (.inr ⟨w.heap.size,0,rfl,by simp⟩),h⟩
theorem append_part {w:World} {F:Ft} {M:Mt} {H:Heap} {t1 t2 ty e e2:TypeId} {i:TypeInfo} {z:Value} {m c2:Nat} {b2:Option Addr} {new:List AV} {news:List Value} {K:AV->Heap->Prop}
  (r:Rel w0 w F M H) (hu1:P.underlying t1=some (.slice e)) (hu2:P.underlying t2=some (.slice e2)) (hz:0<sz P e) (hi:P.info? e=some i) (hzz:i.zero=some z) (hzc:z.cells.size=sz P e)
  (hisz:i.size=sz P e) (hiby:i.bytes=byt P e) (hvn:VRL F M new news) (h1n:∀ (i:Nat) (y:AV),new[i]? =some y->y.one=true) (hln:new.length=m*sz P e)
  (hnews:∀ w':World,w'.heap=w.heap->(Builtin.firstCells (sz P e) m (.slice b2 m c2)).run P w'= .ok news.toArray w')
  {rr off n top:Nat} {cells:List AV} {cv:Value} (hs:VR F M (.ref rr off n top) cv) (hH:H rr=some (.arr (sz P e) e cells top)) (hot:off+n<=top) (hby:(n+m)*byt P e<=140737488355328) (h63:n+m<=4611686018427387904)
  (h:∀ r',H r'=none->K (.ref r' 0 (n+m) (n+m)) (upd (upd H rr none) r' (some (.arr (sz P e) e ((cells.drop (off*sz P e)).take (n*sz P e)++new) (n+m))))):AppRes P w0 w F M t1 t2 ty cv (.slice b2 m c2) K:=by
 have hnlen:news.length=m*sz P e:=by rw [<-hvn.1,hln]
 have hone:=kqe hvn h1n
 obtain ⟨b,c,ab,cap,es0,rfl,hnc,hoc,hM,hcase⟩:=hs.ref_inv
 obtain ⟨hb1,hb2,a2,cap2,hM2,hb4,hb5,hb6⟩:=r.blk rr _ hH
 rw [hM] at hM2;cases hM2
 have hcapmax:c<=maxLen:=by omega
 have hsrc:=kqa (P:=P) (es:=sz P e) (m:=n) (cells:=(cells.drop (off*sz P e)).take (n*sz P e)) r hs rfl (by
  have hfit:(off+n)*sz P e<=cells.length:=by rw [hb1];exact Nat.mul_le_mul_right _ hot
  simp only [dqy,hH]
  rw [if_pos ⟨trivial,trivial,hfit⟩])
 obtain ⟨bo,co,hcvo,_,olds,hvo,h1o,hlo,holds,_⟩:=hsrc
 cases hcvo
 obtain ⟨N,hN⟩:=r.fresh
 have hHN:=(hN N (Nat.le_refl _)).1
 have hMN:=(hN N (Nat.le_refl _)).2
 have k:=h N hHN
 generalize hsub:(cells.drop (off*sz P e)).take (n*sz P e)=sub at hvo h1o hlo k
 have hkl:(sub++new).length=(n+m)*sz P e:=by rw [List.length_append,hlo,hln,Nat.add_mul]
 let k':Blk:= .arr (sz P e) e (sub++new) (n+m)
 have fin:∀ (w':World) (bb:Option Addr) (cp:Nat) (row:Nat),w'.os=w.os->w'.tape=w.tape->w'.output=w.output->
   (∀ j,j<w.heap.size->(∀ kk,H rr=some kk->¬Owns M rr kk j)->w'.heap[j]? =w.heap[j]?)->n+m<=cp->cp<=maxLen->
   (cp=0\/∃ g o' cs,bb=some ⟨g,o',none⟩/\F g=none/\w'.heap[g]? =some (.cells cs e (0,0))/\o'+cp*sz P e<=cs.size/\VRC F M (sub++new) cs o'/\(w.heap.size<=g\/∃ kk,H rr=some kk/\Owns M rr kk g))->
   (Builtin.append_ #[t1,t2] ty #[.slice b n c,.slice b2 m c2]).run P w= .ok (.slice bb (n+m) cp) w'->
   AppRes P w0 w F M t1 t2 ty (.slice b n c) (.slice b2 m c2) K:=by
  intro w' bb cp row q1 q2 q3 q4 q5 q6 q7 hrun
  let M':Mt:=fun s t=>if s=N/\t=n+m then some (bb,cp,sz P e) else M s t
  have hM':M' N (n+m)=some (bb,cp,sz P e):=by simp [M']
  have hx':Ext F F M M':=⟨fun _ _ h=>h,fun s t y hy=>by
   simp only [M']
   split
   ·rename_i e;rw [e.1,hMN] at hy;cases hy
   ·exact hy⟩
  have st:=r.step (w':=w') (M':=M') rr N k' q1 q2 q3 q4
   (fun s t=>by
    simp only [M',k',Blk.gen]
    by_cases e:s=N/\t=n+m
    ·exact .inr e
    ·simp [e])
   (fun x hx0=>by simp only [k',Blk.gen] at hx0;rw [hMN] at hx0;cases hx0) (.inr hHN)
   ⟨hkl,hz,_,cp,hM',q5,q6,by
    rcases q7 with q7 | ⟨g,o',cs,p1,p2,p3,p4,p5,p6⟩
    ·exact .inl q7
    ·exact .inr ⟨g,o',cs,p1,p2,p3,p4,p5.mono hx'⟩⟩
   (fun g' ⟨o3,cap',es',hm3,hc3⟩=>by
    simp only [k',Blk.gen] at hm3;rw [hM'] at hm3;cases hm3
    rcases q7 with q7 | ⟨g,o',cs,p1,p2,p3,p4,p5,p6⟩
    ·exact absurd q7 (hc3 rfl)
    ·cases p1;exact p6)
   (fun t _=>hMN t)
  refine ⟨_,_,_,_,F,M',hrun,st.1,st.2,.ref hM' q5 (by omega) ?_,k⟩
  rcases q7 with q7 | ⟨g,o',cs,p1,p2,p3,p4,p5,p6⟩
  ·exact .inl q7
  ·exact .inr ⟨g,o',p1,by rw [p1];simp⟩
 by_cases hroom:n+m<=c
 ·by_cases hc0:c=0
  ·have hm0:m=0:=by omega
   subst hm0
   have hnews0:news=[]:=List.eq_nil_of_length_eq_zero (by omega)
   subst hnews0
   have hrun:=cqv (P:=P) (ty:=ty) (t1:=t1) (t2:=t2) hu1 hu2 hz (w:=w) (b:=b) (n:=n) (c:=c) rfl (by simpa using hnews) hnc
   exact fin w b c 0 rfl rfl rfl (fun _ _ _=>rfl) hroom hcapmax (.inl hc0) hrun
  ·rcases hcase with hc1 | ⟨g,o',rfl,rfl⟩
   ·exact absurd hc1 hc0
   ·rcases hb6 with hb6 | ⟨g',o2,cs,e1,h7,hg,h9,hC⟩
    ·omega
    ·cases e1
     have hcc:(n+m)*sz P e<=c*sz P e:=Nat.mul_le_mul_right _ hroom
     have hoc':off*sz P e+c*sz P e<=cap*sz P e:=by rw [<-Nat.add_mul];exact Nat.mul_le_mul_right _ hoc
     have hfitn:=hcc
     rw [Nat.add_mul] at hfitn
     have hrun:=hqq (P:=P) (ty:=ty) (t1:=t1) (t2:=t2) hu1 hu2 hz (w:=w) (n:=n) (c:=c) rfl hnews hroom (o:=o'+off*sz P e) hg hnlen (by omega) hone
     generalize hcs':(cs.toList.take (o'+off*sz P e+n*sz P e)++news++cs.toList.drop (o'+off*sz P e+n*sz P e+news.length)).toArray=cs' at hrun
     have hsz':cs'.size=cs.size:=by rw [<-hcs'];simp;omega
     have hCs:VRC F M sub cs (o'+off*sz P e):=by
      intro j av hj
      rw [<-hsub,List.getElem?_take] at hj
      split at hj
      ·rw [List.getElem?_drop] at hj
       obtain ⟨p,cv,q,s⟩:=hC _ _ hj
       exact ⟨p,cv,by rw [Nat.add_assoc];exact q,s⟩
      ·cases hj
     have hC':VRC F M (sub++new) cs' (o'+off*sz P e):=by
      have h0:VRC F M (sub++new) (cs.toList.take (o'+off*sz P e+n*sz P e)++news++cs.toList.drop (o'+off*sz P e+n*sz P e+news.length)).toArray (o'+off*sz P e):=by
       intro j av hj
       rw [List.getElem?_append] at hj
       have htk:(cs.toList.take (o'+off*sz P e+n*sz P e)).length=o'+off*sz P e+n*sz P e:=by simp;omega
       by_cases hjl:j<sub.length
       ·rw [if_pos hjl] at hj
        obtain ⟨p,cv,q,s⟩:=hCs j av hj
        refine ⟨p,cv,?_,s⟩
        simp only [List.getElem?_toArray,List.append_assoc]
        rw [List.getElem?_append_left (by omega),List.getElem?_take,if_pos (by omega)]
        simpa using q
       ·rw [if_neg hjl] at hj
        obtain ⟨cv,q,s⟩:=hvn.get hj
        have hjn:j-sub.length<news.length:=(List.getElem?_eq_some_iff.1 q).1
        refine ⟨h1n _ _ hj,cv,?_,s⟩
        simp only [List.getElem?_toArray,List.append_assoc]
        rw [List.getElem?_append_right (by omega),htk,List.getElem?_append_left (by omega),<-q]
        congr 1;omega
      rw [hcs'] at h0;exact h0
     exact fin (w.setRow g cs') _ c 0 rfl rfl rfl (fun j hj hno=>setRow_other w g j cs' (fun e0=>by subst e0;exact hno _ hH ⟨o',cap,sz P e,hM,fun _=>by omega⟩)) hroom hcapmax
      (.inr ⟨g,o'+off*sz P e,cs',rfl,h7,setRow_heap w g cs cs' e (0,0) hg,by omega,hC',.inr ⟨_,hH,o',cap,sz P e,hM,fun _=>by omega⟩⟩) hrun
 ·have hgr:c<n+m:=by omega
  have hrun:=eqh (P:=P) (ty:=ty) (t1:=t1) (t2:=t2) hu1 hu2 hi hzz (w:=w) (b:=b) (n:=n) (c:=c) rfl (by rw [hisz];exact hnews) (by rw [hisz];exact holds) hgr h63 (by rw [hiby];exact hby)
  have hge:=grownCap_ge w (n+m) c e
  have hcm:=grownCap_le_maxLen w (n+m) c e (by unfold maxLen;omega)
  generalize hcp:grownCap w (n+m) c e=cp at hrun hge hcm
  have hC':=VRC_row hvo hvn h1o h1n (Builtin.zeroCells z.cells (cp-(n+m)))
  generalize hcs':(olds.toArray++news.toArray++Builtin.zeroCells z.cells (cp-(n+m)))=cs' at hrun hC'
  have hsz':cs'.size=cp*sz P e:=by
   rw [<-hcs']
   simp only [Array.size_append,List.size_toArray,size_zeroCells,hzc,<-hvo.1,<-hvn.1,hlo,hln,<-Nat.add_mul]
   congr 1;omega
  exact fin (w.drew.alloc (.cells cs' e)) _ cp 0 rfl rfl rfl (fun j hj _=>kqr w.drew _ j hj) hge hcm
   (.inr ⟨w.heap.size,0,cs',rfl,r.F_none (Nat.le_refl _),kqs w.drew _,by omega,hC',.inl (Nat.le_refl _)⟩) hrun
theorem append_clip {w:World} {F:Ft} {M:Mt} {H:Heap} {t1 t2 ty e e2:TypeId} {i:TypeInfo} {z:Value} {m c2:Nat} {b2:Option Addr} {new:List AV} {news:List Value} {K:AV->Heap->Prop}
  (r:Rel w0 w F M H) (hu1:P.underlying t1=some (.slice e)) (hu2:P.underlying t2=some (.slice e2)) (hz:0<sz P e) (hi:P.info? e=some i) (hzz:i.zero=some z) (hzc:z.cells.size=sz P e)
  (hisz:i.size=sz P e) (hiby:i.bytes=byt P e) (hvn:VRL F M new news) (h1n:∀ (i:Nat) (y:AV),new[i]? =some y->y.one=true) (hln:new.length=m*sz P e)
  (hnews:∀ w':World,w'.heap=w.heap->(Builtin.firstCells (sz P e) m (.slice b2 m c2)).run P w'= .ok news.toArray w')
  {sv:AV} {n:Nat} {old:List AV} {cv:Value} (hs:VR F M sv cv) (hln':gqi sv=some n) (hco:dqy H (sz P e) sv=some old) (hnsl:∀ cells k,sv≠ .sl cells k) (hnref:∀ r off n top,sv≠ .ref r off n top) (hm0:m=0->n=0)
  (hby:(n+m)*byt P e<=140737488355328) (h63:n+m<=4611686018427387904)
  (k:∀ r',H r'=none->K (.ref r' 0 (n+m) (n+m)) (upd H r' (some (.arr (sz P e) e (old++new) (n+m))))):AppRes P w0 w F M t1 t2 ty cv (.slice b2 m c2) K:=by
 have hnlen:news.length=m*sz P e:=by rw [<-hvn.1,hln]
 have hone:=kqe hvn h1n
 obtain ⟨b,c,hcv1,hnc,olds,hvo,h1o,hlo,holds,_⟩:=kqa r hs hln' hco
 have hcn:c=n:=by
  unfold gqi at hln'
  split at hln'<;>try (cases hln';done)
  ·exact absurd rfl (hnsl _ _)
  ·cases hln';obtain ⟨_,e1,_⟩:=hs.csl_inv;rw [hcv1] at e1;cases e1;rfl
  ·exact absurd rfl (hnref _ _ _ _)
  ·cases hln';obtain ⟨_,_,_,_,e1,_⟩:=hs.cref_inv;rw [hcv1] at e1;cases e1;rfl
  ·cases hln';have e1:=hs.sc_inv;rw [hcv1] at e1;cases e1;rfl
 subst hcn
 subst hcv1
 by_cases hm:m=0
 ·subst hm
  have hn0:=hm0 rfl
  subst hn0
  have hnews0:news=[]:=List.eq_nil_of_length_eq_zero (by omega)
  subst hnews0
  have hrun:=cqv (P:=P) (ty:=ty) (t1:=t1) (t2:=t2) hu1 hu2 hz (w:=w) (b:=b) (n:=0) (c:=0) rfl (by simpa using hnews) (Nat.le_refl _)
  have ho0:old=[]:=List.eq_nil_of_length_eq_zero (by omega)
  have hn0:new=[]:=List.eq_nil_of_length_eq_zero (by omega)
  subst ho0 hn0
  obtain ⟨rr,M',hr,hxx,hrel,hM'⟩:=r.newArr0 (sz P e) e hz b
  exact ⟨_,_,_,_,F,M',hrun,hxx,hrel,.ref hM' (Nat.le_refl _) (Nat.le_refl _) (.inl rfl),k rr hr⟩
 ·have hgr:c<c+m:=by omega
  have hrun:=eqh (P:=P) (ty:=ty) (t1:=t1) (t2:=t2) hu1 hu2 hi hzz (w:=w) (b:=b) (n:=c) (c:=c) rfl (by rw [hisz];exact hnews) (by rw [hisz];exact holds) hgr h63 (by rw [hiby];exact hby)
  have hge:=grownCap_ge w (c+m) c e
  have hcm:=grownCap_le_maxLen w (c+m) c e (by unfold maxLen;omega)
  generalize hcp:grownCap w (c+m) c e=cp at hrun hge hcm
  have hC':=VRC_row hvo hvn h1o h1n (Builtin.zeroCells z.cells (cp-(c+m)))
  generalize hcs':(olds.toArray++news.toArray++Builtin.zeroCells z.cells (cp-(c+m)))=cs' at hrun hC'
  have hsz':cs'.size=cp*sz P e:=by
   rw [<-hcs']
   simp only [Array.size_append,List.size_toArray,size_zeroCells,hzc,<-hvo.1,<-hvn.1,hlo,hln,<-Nat.add_mul]
   congr 1;omega
  obtain ⟨rr,M',hr,hxx,hrel,hM'⟩:=r.drew.newArr (sz P e) e (old++new) (c+m) cp cs' hC' (by rw [List.length_append,hlo,hln,Nat.add_mul]) hz hge hcm (by omega)
  exact ⟨_,_,_,_,F,M',hrun,hxx,hrel,.ref hM' hge (by omega) (.inr ⟨w.heap.size,0,rfl,by simp⟩),k rr hr⟩
theorem ok_append {o:Oper} {env:Env} {H:Heap} {K:Env->Heap->Prop} {s x:Operand} {t1 t2:TypeId} (ho:o.op= .call { callee:= .builtin .append,args:= #[s,x],argTypes:= #[t1,t2] })
  (h:iq1 P H t1 t2 (evO env s) (evO env x) (fun v H'=>putK nt o.dst v env (fun env'=>K env' H'))):OpOK P w0 nt o env H K:=by
 refine bq6 ?_
 intro w F M a r er
 have hs:=er.ev s
 have hx:=er.ev x
 have fin:AppRes P w0 w F M t1 t2 o.type (a.eval s) (a.eval x) (fun v H'=>putK nt o.dst v env (fun env'=>K env' H'))->∃ cv w' v H' F' M',(execOp a.eval o).run P w= .ok (.value cv) w'/\Ext F F' M M'/\Rel w0 w' F' M' H'/\VR F' M' v cv/\
   putK nt o.dst v env (fun env'=>K env' H'):=by
  rintro ⟨cv,w',v,H',F',M',hr,q⟩
  exact ⟨cv,w',v,H',F',M',by simp [execOp,ho,resolve,invoke,builtin,hr],q⟩
 refine fin ?_
 clear fin ho
 revert h hs hx
 generalize evO env s=sv
 generalize evO env x=xv
 generalize a.eval s=cs
 generalize a.eval x=cx
 generalize (fun v H'=>putK nt o.dst v env (fun env'=>K env' H'))=K'
 intro h hs hx
 unfold iq1 at h
 split at h<;>try exact h.elim
 rename_i e e2 he1 he2
 have hu1:=dq7 he1
 have hu2:=dq7 he2
 obtain ⟨hz,hzer,h⟩:=h
 obtain ⟨zs,hzs,hzl⟩:=Option.map_eq_some_iff.1 hzer
 obtain ⟨i,z,hi,hzz,hcs⟩:=jqy hzs
 obtain ⟨i',hi',hisz,hiby⟩:=jq5 hz
 rw [hi] at hi';cases hi'
 have hzc:z.cells.size=sz P e:=by rw [<-hzl,<-hcs];simp
 split at h<;>try exact h.elim
 rename_i m new hl hc
 obtain ⟨b2,c2,rfl,hm2,news,hvn,h1n,hln,hnews,_⟩:=kqa r hx hl hc
 split at h
 ·rename_i rr off n top
  obtain ⟨hby,h63,h⟩:=h
  split at h<;>try exact h.elim
  rename_i es e' cells n' hH
  obtain ⟨h1,h2,h3,hot,h5⟩:=h
  subst h1 h2 h3
  split at h5
  ·rename_i hwhole
   obtain ⟨h1,h2⟩:=hwhole
   subst h1 h2
   exact append_whole r hu1 hu2 hz hi hzz hzc hisz hiby hvn h1n hln hnews hs hH hby h63 h5
  ·exact append_part r hu1 hu2 hz hi hzz hzc hisz hiby hvn h1n hln hnews hs hH hot hby h63 h5
 ·rename_i hnref
  split at h<;>try exact h.elim
  rename_i n old hln' hco
  obtain ⟨hnsl,hm0,hby,h63,k⟩:=h
  exact append_clip r hu1 hu2 hz hi hzz hzc hisz hiby hvn h1n hln hnews hs hln' hco hnsl hnref hm0 hby h63 k
def growK (P:Program) (H:Heap) (t1 t2:TypeId) (s x:AV) (K:AV->Heap->Prop):Prop:=
 match s,x with
 | .sc (.slice none 0 0),.sc (.int _ n)=>
  match slE P t1 with
  | some e=>(intOf? P t2).isSome=true/\0<sz P e/\0<n/\n<=4611686018427387904/\n.toNat*byt P e<=140737488355328/\
   match zer P e with
   | some zs=>zs.all Value.oneCell'=true/\zs.length=sz P e/\
    ∀ r,H r=none->K (.ref r 0 n.toNat n.toNat) (upd H r (some (.arr (sz P e) e (zrep zs (n.toNat*sz P e)) n.toNat)))
   | none=>False
  | none=>False
 | _,_=>False
def appK (P:Program) (H:Heap) (t1 t2:TypeId) (s x:AV) (K:AV->Heap->Prop):Prop:=
 if (slE P t2).isSome=true then iq1 P H t1 t2 s x K else growK P H t1 t2 s x K
theorem VRC.left {F:Ft} {M:Mt} {cells:List AV} {A B:Array Value} (h:VRC F M cells A 0):VRC F M cells (A++B) 0:=by
 intro i av hi
 obtain ⟨p,cv,q,s⟩:=h i av hi
 refine ⟨p,cv,?_,s⟩
 have hlt:0+i<A.size:=(Array.getElem?_eq_some_iff.1 q).1
 rw [Array.getElem?_append_left hlt];exact q
theorem ok_grow {o:Oper} {env:Env} {H:Heap} {K:Env->Heap->Prop} {s x:Operand} {t1 t2:TypeId} (ho:o.op= .call { callee:= .builtin .append,args:= #[s,x],argTypes:= #[t1,t2] })
  (h:growK P H t1 t2 (evO env s) (evO env x) (fun v H'=>putK nt o.dst v env (fun env'=>K env' H'))):OpOK P w0 nt o env H K:=by
 refine bq6 fun w F M a r er=> ?_
 have hs:=er.ev s
 have hx:=er.ev x
 unfold growK at h
 split at h
 ·rename_i kq n e1 e2
  rw [e1] at hs;rw [e2] at hx
  split at h
  ·rename_i e he
   have hu:=dq7 he
   obtain ⟨hint,hz,h0,h63,hby,h⟩:=h
   split at h
   ·rename_i zs hzs
    obtain ⟨i,z,hi,hzz,hcs⟩:=jqy hzs
    obtain ⟨i',hi',hisz,hiby⟩:=jq5 hz
    rw [hi] at hi';cases hi'
    obtain ⟨hone,hlen,k⟩:=h
    have hne:zs≠[]:=by intro e0;rw [e0] at hlen;simp at hlen;omega
    have hzsz:z.cells.size=sz P e:=by rw [<-hlen,<-hcs];simp
    obtain ⟨kn,hkn⟩:=Option.isSome_iff_exists.1 hint
    have hun:P.underlying t2=some (.int kn):=by
     unfold intOf? at hkn
     split at hkn
     ·rename_i k' e';cases hkn;exact e'
     ·cases hkn
    obtain ⟨m,rfl⟩:∃ m:Nat,n=m:=⟨n.toNat,by omega⟩
    simp only [Int.toNat_natCast] at hby k
    have hr:=Go.Lib.run_append_nil_zeros (P:=P) w t1 t2 o.type e i z kq kn hu hun hi hzz m (by omega) (by rw [hisz];exact hz) (by omega) (by rw [hiby];omega)
    have hge:=grownCap_ge w m 0 e
    have hcm:=grownCap_le_maxLen w m 0 e (by unfold maxLen;omega)
    generalize grownCap w m 0 e=cp at hr hge hcm
    have hC0:VRC F M (zrep zs (m*sz P e)) (Builtin.zeroCells z.cells m) 0:=by
     have:=jqw F M hone (m*sz P e) (.inl hne) hcs
     rw [<-hzsz] at this
     rw [<-hzsz]
     exact this
    have hC1:VRC F M (zrep zs (m*sz P e)) (Builtin.zeroCells z.cells m++Builtin.zeroCells z.cells (cp-m)) 0:=VRC.left hC0
    have hsz:cp*sz P e<=(Builtin.zeroCells z.cells m++Builtin.zeroCells z.cells (cp-m)).size:=by
     rw [Array.size_append,size_zeroCells,size_zeroCells,<-Nat.add_mul,hzsz]
     exact Nat.mul_le_mul_right _ (by omega)
    obtain ⟨rr,M',hrn,hxx,hrel,hM'⟩:=r.drew.newArr (sz P e) e _ m cp _ hC1 (cqp _ _) hz hge hcm hsz
    refine ⟨.slice (some ⟨w.heap.size,0,none⟩) m cp,_,.ref rr 0 m m,_,F,M',?_,hxx,hrel,.ref hM' (by omega) (by omega) (.inr ⟨w.heap.size,0,rfl,by simp⟩),k rr hrn⟩
    simp [execOp,ho,resolve,invoke,builtin,hs.sc_inv,hx.sc_inv,hr]
   ·exact h.elim
  ·exact h.elim
 ·exact h.elim
theorem ok_app {o:Oper} {env:Env} {H:Heap} {K:Env->Heap->Prop} {s x:Operand} {t1 t2:TypeId} (ho:o.op= .call { callee:= .builtin .append,args:= #[s,x],argTypes:= #[t1,t2] })
  (h:appK P H t1 t2 (evO env s) (evO env x) (fun v H'=>putK nt o.dst v env (fun env'=>K env' H'))):OpOK P w0 nt o env H K:=by
 unfold appK at h
 split at h
 ·exact ok_append ho h
 ·exact ok_grow ho h
end
end Go.Am
namespace Go.Am
open Go
section
variable {P:Program} {w0:World} {nt:Nat}
def lenK (P:Program) (t:TypeId) (x:AV) (K:AV->Prop):Prop:=
 match x with
 | .sc (.string s)=>P.underlying t=some .string/\K (I s.size)
 | x=>(slE P t).isSome=true/\match gqi x with
  | some n=>K (I n)
  | none=>False
theorem ok_len {o:Oper} {env:Env} {H:Heap} {K:Env->Heap->Prop} {x:Operand} {t:TypeId} (ho:o.op= .call { callee:= .builtin .len,args:= #[x],argTypes:= #[t] })
  (h:lenK P t (evO env x) (fun v=>putK nt o.dst v env (fun env'=>K env' H))):OpOK P w0 nt o env H K:=by
 refine bqo _ ?_ h
 clear h
 intro w F M a r er K' h
 have hx:=er.ev x
 unfold lenK at h
 split at h
 ·rename_i s e
  rw [e] at hx
  obtain ⟨hu,k⟩:=h
  exact ⟨_,.int .i64 s.size,by simp [execOp,ho,resolve,invoke,builtin,hx.sc_inv,Builtin.len_,run_underlying hu,goInt],.sc _,k⟩
 ·obtain ⟨hsl,h⟩:=h
  obtain ⟨e,he⟩:=Option.isSome_iff_exists.1 hsl
  have hu:=dq7 he
  split at h
  ·rename_i n hn
   obtain ⟨b,c,hcv,_⟩:=hqn hn hx
   exact ⟨_,.int .i64 n,by simp [execOp,ho,resolve,invoke,builtin,hcv,Builtin.len_,run_underlying hu,goInt],.sc _,h⟩
  ·exact h.elim
def capK (P:Program) (t:TypeId) (x:AV) (K:AV->Prop):Prop:=
 match x with
 | .sc (.slice none 0 0)=>(slE P t).isSome=true/\K (I 0)
 | _=>False
theorem ok_cap {o:Oper} {env:Env} {H:Heap} {K:Env->Heap->Prop} {x:Operand} {t:TypeId} (ho:o.op= .call { callee:= .builtin .cap,args:= #[x],argTypes:= #[t] })
  (h:capK P t (evO env x) (fun v=>putK nt o.dst v env (fun env'=>K env' H))):OpOK P w0 nt o env H K:=by
 refine bqo _ ?_ h
 clear h
 intro w F M a r er K' h
 have hx:=er.ev x
 unfold capK at h
 split at h
 ·rename_i e
  rw [e] at hx
  obtain ⟨hsl,k⟩:=h
  obtain ⟨e,he⟩:=Option.isSome_iff_exists.1 hsl
  have hu:=dq7 he
  exact ⟨_,.int .i64 0,by simp [execOp,ho,resolve,invoke,builtin,hx.sc_inv,Builtin.cap_,run_underlying hu,goInt],.sc _,k⟩
 ·exact h.elim
def eq7 (mx:Bool) (x y:AV) (K:AV->Prop):Prop:=
 match x,y with
 | .sc (.int k a),.sc (.int _ b)=>K (.sc (.int k (if mx then max a b else min a b)))
 | _,_=>False
theorem ok_min {o:Oper} {env:Env} {H:Heap} {K:Env->Heap->Prop} {x y:Operand} {ts:Array TypeId} (ho:o.op= .call { callee:= .builtin .min,args:= #[x,y],argTypes:=ts })
  (h:eq7 false (evO env x) (evO env y) (fun v=>putK nt o.dst v env (fun env'=>K env' H))):OpOK P w0 nt o env H K:=by
 refine bqo _ ?_ h
 clear h
 intro w F M a r er K' h
 have hx:=er.ev x
 have hy:=er.ev y
 unfold eq7 at h
 split at h
 ·rename_i k n k' m e1 e2
  rw [e1] at hx;rw [e2] at hy
  refine ⟨_,.int k (min n m),?_,.sc _,h⟩
  have:(if m<n then m else n)=min n m:=by split<;>omega
  simp [execOp,ho,resolve,invoke,builtin,hx.sc_inv,hy.sc_inv,Builtin.min_,Builtin.min2,this]
 ·exact h.elim
theorem ok_max {o:Oper} {env:Env} {H:Heap} {K:Env->Heap->Prop} {x y:Operand} {ts:Array TypeId} (ho:o.op= .call { callee:= .builtin .max,args:= #[x,y],argTypes:=ts })
  (h:eq7 true (evO env x) (evO env y) (fun v=>putK nt o.dst v env (fun env'=>K env' H))):OpOK P w0 nt o env H K:=by
 refine bqo _ ?_ h
 clear h
 intro w F M a r er K' h
 have hx:=er.ev x
 have hy:=er.ev y
 unfold eq7 at h
 split at h
 ·rename_i k n k' m e1 e2
  rw [e1] at hx;rw [e2] at hy
  refine ⟨_,.int k (max n m),?_,.sc _,h⟩
  have:(if n<m then m else n)=max n m:=by split<;>omega
  simp [execOp,ho,resolve,invoke,builtin,hx.sc_inv,hy.sc_inv,Builtin.max_,Builtin.max2,this]
 ·exact h.elim
def copyK (P:Program) (H:Heap) (t1 t2:TypeId) (d x:AV) (K:AV->Heap->Prop):Prop:=
 match slE P t1,slE P t2 with
 | some e,some _=>0<sz P e/\
  match gqi x,dqy H (sz P e) x with
  | some m,some src=>
   match d with
   | .ref r off n top=>match H r with
    | some (.arr es e' cells n')=>n'=top/\es=sz P e/\off+n<=top/\
      K (I (min m n:Nat)) (upd H r (some (.arr es e' (setL cells (off*es) (src.take (min m n*es))) n')))
    | _=>False
   | _=>False
  | _,_=>False
 | _,_=>False
def mqc (P:Program) (H:Heap) (t:TypeId) (d:AV) (K:AV->Heap->Prop):Prop:=
 match slE P t with
 | some e=>0<sz P e/\
  match zer P e with
  | some zs=>zs.all Value.oneCell'=true/\zs.length=sz P e/\
   match d with
   | .ref r off n top=>match H r with
    | some (.arr es e' cells n')=>n'=top/\es=sz P e/\off+n<=top/\
      K (.tup []) (upd H r (some (.arr es e' (setL cells (off*es) (zrep zs (n*es))) n')))
    | _=>False
   | _=>False
  | none=>False
 | none=>False
theorem lqc {w:World} {F:Ft} {M:Mt} {H:Heap} (r:Rel w0 w F M H) {rr off n top es:Nat} {e:TypeId} {cells vs:List AV} {cvs:List Value} {cv:Value} (hv:VR F M (.ref rr off n top) cv) (hH:H rr=some (.arr es e cells top))
  (hot:off+n<=top) (hvl:VRL F M vs cvs) (h1:∀ (i:Nat) (y:AV),vs[i]? =some y->y.one=true) (hl:vs.length<=n*es):
  ∃ b c w',cv= .slice b n c/\Rel w0 w' F M (upd H rr (some (.arr es e (setL cells (off*es) vs) top)))/\
   (match b with | some a=>(storeCells a cvs).run P w= .ok () w' | none=>vs=[]/\w'=w):=by
 obtain ⟨b,c,ab,cap,es0,rfl,hnc,hoc,hM,hcase⟩:=hv.ref_inv
 obtain ⟨hb1,hb2,a2,cap2,hM2,hb4,hb5,hb6⟩:=r.blk rr _ hH
 rw [hM] at hM2;cases hM2
 by_cases hn:vs=[]
 ·subst hn
  have hcv:cvs=[]:=List.eq_nil_of_length_eq_zero (by simpa using hvl.1.symm)
  subst hcv
  refine ⟨b,c,w,rfl,?_,?_⟩
  ·have:upd H rr (some (.arr es e (setL cells (off*es) []) top))=H:=by rw [setL,<-hH,hqb]
   rw [this];exact r
  ·cases b with
   | none=>exact ⟨rfl,rfl⟩
   | some a=>rfl
 ·have hvpos:0<vs.length:=List.length_pos_iff.2 hn
  have hnpos:0<n:=by
   rcases Nat.eq_zero_or_pos n with h0 | h0
   ·subst h0;simp at hl;exact absurd hl hn
   ·exact h0
  rcases hcase with hc0 | ⟨g,o',rfl,rfl⟩
  ·omega
  ·rcases hb6 with hb6 | ⟨g',o2,cs,e1,h7,hg,h9,hC⟩
   ·omega
   ·cases e1
    have hfit1:off*es+n*es<=top*es:=by rw [<-Nat.add_mul];exact Nat.mul_le_mul_right _ hot
    have hfit2:top*es<=cap*es:=Nat.mul_le_mul_right _ hb4
    have hlen:=hvl.1
    have hrun:=run_storeCells_at P g (o'+off*es) e cvs 0 cs w hg (by omega) (kqe hvl h1)
    simp only [Nat.add_zero] at hrun
    have hC':=VRC.setL (off:=off*es) hC hvl h1 (by omega) (by omega)
    refine ⟨_,c,_,rfl,?_,hrun⟩
    have hw:=r.write (cells:=cells) (cells':=setL cells (off*es) vs) hH rfl ⟨o',cap,es,hM,fun _=>by omega⟩ hM hg (.inl ⟨es,e,rfl⟩) (eq5 _ _ _) (by simp;omega) hC'
    have:kq4 H rr (setL cells (off*es) vs)=upd H rr (some (.arr es e (setL cells (off*es) vs) top)):=by simp [kq4,hH]
    rw [this] at hw
    exact hw
theorem ok_copy {o:Oper} {env:Env} {H:Heap} {K:Env->Heap->Prop} {d x:Operand} {t1 t2:TypeId} (ho:o.op= .call { callee:= .builtin .copy,args:= #[d,x],argTypes:= #[t1,t2] })
  (h:copyK P H t1 t2 (evO env d) (evO env x) (fun v H'=>putK nt o.dst v env (fun env'=>K env' H'))):OpOK P w0 nt o env H K:=by
 refine bq6 ?_
 intro w F M a r er
 have hd:=er.ev d
 have hx:=er.ev x
 revert h hd hx
 generalize hdv:evO env d=dv
 generalize evO env x=xv
 intro h hd hx
 unfold copyK at h
 split at h<;>try exact h.elim
 rename_i e e2 he1 he2
 have hu1:=dq7 he1
 obtain ⟨hz,h⟩:=h
 split at h<;>try exact h.elim
 rename_i m src hl hc
 obtain ⟨b2,c2,hcx,hm2,news,hvn,h1n,hln,hnews,hcell⟩:=kqa (P:=P) r hx hl hc
 split at h<;>try exact h.elim
 rename_i rr off n top
 split at h<;>try exact h.elim
 rename_i es e' cells n' hH
 obtain ⟨h1,h2,hot,k⟩:=h
 subst h1 h2
 have hmin:min m n*sz P e<=m*sz P e:=Nat.mul_le_mul_right _ (Nat.min_le_left _ _)
 have hvt:VRL F M (src.take (min m n*sz P e)) (news.take (min m n*sz P e)):=by
  refine ⟨by simp [hvn.1],fun i av cv' ha hb=> ?_⟩
  rw [List.getElem?_take] at ha hb
  split at ha
  ·rename_i hlt;rw [if_pos hlt] at hb;exact hvn.2 i av cv' ha hb
  ·cases ha
 have h1t:∀ (i:Nat) (y:AV),(src.take (min m n*sz P e))[i]? =some y->y.one=true:=by
  intro i y hy
  rw [List.getElem?_take] at hy
  split at hy
  ·exact h1n i y hy
  ·cases hy
 have hlt:(src.take (min m n*sz P e)).length<=n*sz P e:=by
  rw [List.length_take]
  have:min m n*sz P e<=n*sz P e:=Nat.mul_le_mul_right _ (Nat.min_le_right _ _)
  omega
 obtain ⟨b,c,w',hcd,hrel,hst⟩:=lqc (P:=P) r hd hH hot hvt h1t hlt
 have hfc:(Builtin.firstCells (sz P e) (min m n) (.slice b2 m c2)).run P w= .ok (news.take (min m n*sz P e)).toArray w:=by
  have hnl:news.length=m*sz P e:=by rw [<-hvn.1,hln]
  cases b2 with
  | none=>
   have h0:news=[]:=by
    cases news with
    | nil=>rfl
    | cons v l=>obtain ⟨ad,e0,_⟩:=hcell 0 v rfl;cases e0
   subst h0
   simp [Builtin.firstCells]
  | some ad=>
   refine run_firstCells_some w (sz P e) (min m n) ad m c2 _ (by rw [List.length_take,hnl];omega) fun j v hj=> ?_
   rw [List.getElem?_take] at hj
   split at hj
   ·obtain ⟨ad',e0,hc'⟩:=hcell j v hj;cases e0;exact hc'
   ·cases hj
 refine ⟨_,w',I (min m n:Nat),_,F,M,?_,Ext.refl _ _,hrel,.sc _,k⟩
 have hmn:Nat.min m n=min m n:=rfl
 cases b with
 | none=>
  simp only at hst
  obtain ⟨_,rfl⟩:=hst
  simp [execOp,ho,resolve,invoke,builtin,hcd,hcx,Builtin.copy_,run_underlying hu1,Builtin.lenOf,aq0 hz,hmn,hfc,goInt]
 | some ad=>
  simp only at hst
  simp [execOp,ho,resolve,invoke,builtin,hcd,hcx,Builtin.copy_,run_underlying hu1,Builtin.lenOf,aq0 hz,hmn,hfc,hst,goInt]
theorem mqm (F:Ft) (M:Mt) {zs:List Value} {z:Array Value} (e:z.toList=zs) (n:Nat):VRL F M (zrep zs (n*zs.length)) (Builtin.zeroCells z n).toList:=by
 have hsz:z.size=zs.length:=by rw [<-e];simp
 refine ⟨by simp [zrep,Builtin.zeroCells,hsz],fun i av cv ha hb=> ?_⟩
 have hi:i<n*zs.length:=by have:=(List.getElem?_eq_some_iff.1 ha).1;simpa [cqp] using this
 have hpos:0<zs.length:=by
  rcases Nat.eq_zero_or_pos zs.length with h | h
  ·rw [h] at hi;simp at hi
  ·exact h
 have hm:i%zs.length<zs.length:=Nat.mod_lt _ hpos
 simp only [zrep,List.getElem?_map,List.getElem?_range hi,Option.map_some,Option.some.injEq] at ha
 subst ha
 have hi':i<n*z.size:=by rw [hsz];exact hi
 have hm':i%z.size<z.size:=by rw [hsz];exact hm
 have hrg:(Array.range (n*z.size))[i]? =some i:=by simp [hi']
 simp only [Builtin.zeroCells,Array.getElem?_toList,Array.getElem?_map,hrg,Option.map_some,Option.some.injEq,getElem!_pos z (i%z.size) hm'] at hb
 have hgd:zs.getD (i%zs.length) undef=cv:=by
  subst e
  rw [<-hb]
  simp [List.getD_eq_getElem?_getD,hm']
 rw [hgd];exact .sc _
theorem zrep_ones {zs:List Value} (h:zs.all Value.oneCell'=true) (n:Nat) (hne:zs≠[]\/n=0):∀ (i:Nat) (y:AV),(zrep zs n)[i]? =some y->y.one=true:=by
 intro i y hy
 exact (jqw (fun _=>none) (fun _ _=>none) h n hne (z:=zs.toArray) rfl i y hy).1
theorem ok_clear {o:Oper} {env:Env} {H:Heap} {K:Env->Heap->Prop} {d:Operand} {t:TypeId} (ho:o.op= .call { callee:= .builtin .clear,args:= #[d],argTypes:= #[t] })
  (h:mqc P H t (evO env d) (fun v H'=>putK nt o.dst v env (fun env'=>K env' H'))):OpOK P w0 nt o env H K:=by
 refine bq6 ?_
 intro w F M a r er
 have hd:=er.ev d
 revert h hd
 generalize evO env d=dv
 intro h hd
 unfold mqc at h
 split at h<;>try exact h.elim
 rename_i e he1
 have hu1:=dq7 he1
 obtain ⟨hz,h⟩:=h
 split at h<;>try exact h.elim
 rename_i zs hzs
 obtain ⟨i,z,hi,hzz,hcs⟩:=jqy hzs
 obtain ⟨hone,hlen,h⟩:=h
 split at h<;>try exact h.elim
 rename_i rr off n top
 split at h<;>try exact h.elim
 rename_i es e' cells n' hH
 obtain ⟨h1,h2,hot,k⟩:=h
 subst h1 h2
 have hne:zs≠[]:=by intro e0;rw [e0] at hlen;simp at hlen;omega
 have hvl:=mqm F M hcs n
 rw [hlen] at hvl
 obtain ⟨b,c,w',hcd,hrel,hst⟩:=lqc (P:=P) r hd hH hot hvl (zrep_ones hone _ (.inl hne)) (by rw [cqp];exact Nat.le_refl _)
 have hzv:(zeroValue e).run P w= .ok z w:=by simp [zeroValue,typeInfo,hi,hzz]
 refine ⟨.tuple #[],w',.tup [],_,F,M,?_,Ext.refl _ _,hrel,.tup (fun _=>undef) rfl (by simp) (by simp),k⟩
 cases b with
 | none=>
  simp only at hst
  obtain ⟨_,rfl⟩:=hst
  simp [execOp,ho,resolve,invoke,builtin,hcd,Builtin.clear_,run_underlying hu1]
 | some ad=>
  simp only at hst
  cases n with
  | zero=>
   have:w'=w:=by
    have h0:(Builtin.zeroCells z.cells 0).toList=[]:=by simp [Builtin.zeroCells]
    rw [h0] at hst
    simp [storeCells] at hst
    exact hst.symm
   subst this
   simp [execOp,ho,resolve,invoke,builtin,hcd,Builtin.clear_,run_underlying hu1]
  | succ n=>
   simp [execOp,ho,resolve,invoke,builtin,hcd,Builtin.clear_,run_underlying hu1,hzv,hst]
def callK (P:Program) (w0:World) (H:Heap) (f:AV) (args:List AV) (K:AV->Heap->Prop):Prop:=
 match f with
 | .clo fid first caps=>aqo P w0 fid (first++args++caps) H K
 | _=>False
theorem ok_call {o:Oper} {env:Env} {H:Heap} {K:Env->Heap->Prop} {f:Operand} {args:Array Operand} {ts:Array TypeId} (ho:o.op= .call { callee:= .value f,args:=args,argTypes:=ts })
  (h:callK P w0 H (evO env f) (args.toList.map fun x=>wk (evO env x)) (fun v H'=>putK nt o.dst v env (fun env'=>K env' H'))):OpOK P w0 nt o env H K:=by
 intro w F M a r er next Q hn
 have hf:=er.ev f
 revert h hf
 generalize evO env f=fv
 intro h hf
 unfold callK at h
 split at h<;>try exact h.elim
 rename_i fid first caps
 obtain ⟨hcb,h⟩:=h
 generalize hcf:a.eval f=cf at hf
 cases hf with
 | clo ff gg hs ht h1 h2 h3 h4=>
  rename_i cs ds
  have hvl:VRL F M (first++(args.toList.map fun x=>wk (evO env x))++caps) (cs++args.map a.eval++ds).toList:=by
   simp only [Array.toList_append,Array.toList_map]
   refine (VRL.append (VRL.append (VRL.of hs h1 h2) (VRL.map _ fun x _=>(er.ev x).wk)) (VRL.of ht h3 h4))
  have hcalls:=h w F M (cs++args.map a.eval++ds) r hvl
  have hrun:(execOp a.eval o).run P w= .ok (.enter fid (cs++args.map a.eval++ds)) w:=by
   unfold dqq at hcb
   cases hfn:P.funcs[fid]? with
   | none=>rw [hfn] at hcb;cases hcb
   | some fn=>
    rw [hfn] at hcb
    simp only [Bool.and_eq_true,bne_iff_ne,ne_eq] at hcb
    obtain ⟨hnm,hbody⟩:=hcb
    obtain ⟨c,hc⟩:=Option.isSome_iff_exists.1 hbody
    simp [execOp,ho,resolve,Deferred.ofValue,hcf,invoke,callFunc,hfn,hnm,hc]
  unfold Oper.wp
  rw [hrun,Oper.upon_enter]
  refine hcalls.mono ?_
  rintro e w' ⟨v,cv,H',F',M',rfl,x,r',hv,k⟩
  obtain ⟨env',er',k'⟩:=kqc (er.mono x) hv k
  exact hn env' H' F' M' _ _ x r' er' k'
def kqg (P:Program) (t:TypeId) (name:String):Option (FuncId×Option TypeId):=
 match P.info? t with
 | some i=>match i.methods.find? (fun m=>m.name==name) with
  | some m=>match m.path.toList,m.func,P.underlying t with
   | [],some (f,true),some (.pointer _)=>some (f,none)
   | [],some (f,false),some (.pointer e)=>some (f,some e)
   | _,_,_=>none
  | none=>none
 | none=>none
def kqm (P:Program) (w0:World) (H:Heap) (x:AV) (name:String) (args:List AV) (K:AV->Heap->Prop):Prop:=
 match x with
 | .ifc t v=>match kqg P t name with
  | some (f,none)=>aqo P w0 f (v::args) H K
  | some (f,some e)=>jqk P H e v (fun u=>aqo P w0 f (wk u::args) H K)
  | none=>False
 | _=>False
theorem loadK_run {w:World} {F:Ft} {M:Mt} {H:Heap} {t:TypeId} {av:AV} {cv:Value} {K:AV->Prop} (r:Rel w0 w F M H) (hx:VR F M av cv) (h:jqk P H t av K):
  ∃ ad v u,cv= .pointer (some ad)/\(loadVar t ad).run P w= .ok u w/\VR F M v u/\K v:=by
 unfold jqk at h
 split at h
 ·rename_i cells off
  obtain ⟨b,oo,cs,e,fz,hF,hC,hcv⟩:=hx.eptr_inv
  obtain ⟨v,cv,hr,hv,k⟩:=gqc (r.hF _ _ hF) hC h
  exact ⟨_,v,cv,hcv,hr,hv,k⟩
 ·rename_i rr top off
  split at h
  ·rename_i cells hcells
   obtain ⟨g,oo,cap,es,hM,hcv⟩:=hx.ptr_inv
   obtain ⟨k',g',oo',cs,e,cap',es',hk,hgen,how,hM',hg,hC,hl,hor⟩:=r.row hcells (loadV_pos h)
   rw [hM] at hM';cases hM'
   obtain ⟨v,cv,hr,hv,k⟩:=gqc hg hC h
   exact ⟨_,v,cv,hcv,hr,hv,k⟩
  ·exact h.elim
 ·exact h.elim
theorem call_run {w:World} {f:FuncId} {args:Array Value} (hcb:dqq P f=true):(callFunc f args).run P w= .ok (.enter f args) w:=by
 unfold dqq at hcb
 cases hfn:P.funcs[f]? with
 | none=>rw [hfn] at hcb;cases hcb
 | some fn=>
  rw [hfn] at hcb
  simp only [Bool.and_eq_true,bne_iff_ne,ne_eq] at hcb
  obtain ⟨hnm,hbody⟩:=hcb
  obtain ⟨c,hc⟩:=Option.isSome_iff_exists.1 hbody
  simp [callFunc,hfn,hnm,hc]
theorem run_info {w:World} {t:TypeId} {i:TypeInfo} (h:P.info? t=some i):(typeInfo t).run P w= .ok i w:=by simp [typeInfo,h]
theorem run_wrap {w:World} {xt:TypeId} {ad:Addr} {x y:String}:(Builtin.ssaWrapNilChk_ #[xt] xt #[.pointer (some ad),strVal x,strVal y]).run P w= .ok (.pointer (some ad)) w:=rfl
theorem method_run {w:World} {t e:TypeId} {name:String} {f:FuncId} {ad:Addr} {u:Value} {n:Nat} (h:kqg P t name=some (f,some e)) (hl:(loadVar e ad).run P w= .ok u w):
  (method (n+1) t (.pointer (some ad)) name).run P w= .ok (f,u) w:=by
 unfold kqg at h
 split at h
 ·rename_i i hi
  split at h
  ·rename_i m hm
   split at h
   ·cases h
   ·rename_i f' e' hp hf hu
    cases h
    have hp2:m.path= #[]:=Array.ext' hp
    simp [method,run_info hi,hm,hp2,follow,hf,receiverAt,run_underlying hu,Place.get,run_wrap,asAddr,hl]
   ·cases h
  ·cases h
 ·cases h
theorem kq7 {w:World} {t:TypeId} {name:String} {f:FuncId} {u:Value} {n:Nat} (h:kqg P t name=some (f,none)):(method (n+1) t u name).run P w= .ok (f,u) w:=by
 unfold kqg at h
 split at h
 ·rename_i i hi
  split at h
  ·rename_i m hm
   split at h
   ·rename_i f' e' hp hf hu
    cases h
    simp [method,run_info hi,hm,hp,follow,hf,receiverAt,run_underlying hu,Place.get]
   ·cases h
   ·cases h
  ·cases h
 ·cases h
theorem ok_invoke {o:Oper} {env:Env} {H:Heap} {K:Env->Heap->Prop} {x:Operand} {name:String} {args:Array Operand} {ts:Array TypeId} (ho:o.op= .call { callee:= .invoke x name,args:=args,argTypes:=ts })
  (h:kqm P w0 H (evO env x) name (args.toList.map fun x=>wk (evO env x)) (fun v H'=>putK nt o.dst v env (fun env'=>K env' H'))):OpOK P w0 nt o env H K:=by
 intro w F M a r er next Q hn
 have hx:=er.ev x
 revert h hx
 generalize evO env x=xv
 intro h hx
 unfold kqm at h
 split at h
 ·rename_i t v
  obtain ⟨u,hu,hv⟩:=hx.ifc_inv
  have hargs:VRL F M (args.toList.map fun x=>wk (evO env x)) (args.map a.eval).toList:=by
   simp only [Array.toList_map]
   exact VRL.map _ fun x _=>(er.ev x).wk
  have key:∃ f av uv,VR F M av uv/\(method (P.types.size+Made.depth) t u name).run P w= .ok (f,uv) w/\
    aqo P w0 f (av::args.toList.map fun x=>wk (evO env x)) H (fun v H'=>putK nt o.dst v env (fun env'=>K env' H')):=by
   split at h
   ·rename_i f hm
    exact ⟨f,v,u,hv,kq7 hm,h⟩
   ·rename_i f e hm
    obtain ⟨ad,uu,cu,hcv,hl,huu,k⟩:=loadK_run r hv h
    subst hcv
    exact ⟨f,wk uu,cu,huu.wk,method_run hm hl,k⟩
   ·exact h.elim
  obtain ⟨f,av,uv,hav,hm,hcb,hc⟩:=key
  have hvl:VRL F M (av::args.toList.map fun x=>wk (evO env x)) (#[uv]++args.map a.eval).toList:=by
   have:=VRL.cons hav hargs
   simpa using this
  have hcalls:=hc w F M (#[uv]++args.map a.eval) r hvl
  have hrun:(execOp a.eval o).run P w= .ok (.enter f (#[uv]++args.map a.eval)) w:=by
   have e0:(#[Value.iface t u]++args.map a.eval)[0]? =some (.iface t u):=by simp [Array.getElem?_append]
   have e1:(#[Value.iface t u]++args.map a.eval).extract 1 (#[Value.iface t u]++args.map a.eval).size=args.map a.eval:=by
    apply Array.ext'
    simp
    exact List.take_of_length_le (by simp)
   simp only [execOp,ho,resolve,hu]
   show (invoke (.fn (.method name) #[]) (#[Value.iface t u]++args.map a.eval)).run P w=_
   unfold invoke
   simp only [e0,e1]
   show (callMethod (Value.iface t u) name (args.map a.eval)).run P w=_
   simp [callMethod,hm,call_run hcb]
  unfold Oper.wp
  rw [hrun,Oper.upon_enter]
  refine hcalls.mono ?_
  rintro e w' ⟨v,cv,H',F',M',rfl,x,r',hv,k⟩
  obtain ⟨env',er',k'⟩:=kqc (er.mono x) hv k
  exact hn env' H' F' M' _ _ x r' er' k'
 ·exact h.elim
end
end Go.Am
namespace Go.Am
open Go Go.MapKept
set_option linter.unusedVariables false
set_option linter.unusedSimpArgs false
def gqj (kv:List (Int×Int)) (n:Int):Option Int:=
 match kv with
 | []=>none
 | p::r=>if n=p.1 then some p.2 else gqj r n
def dq2 (kv:List (Int×Int)) (n x:Int):List (Int×Int):=
 match kv with
 | []=>[(n,x)]
 | p::r=>if n=p.1 then (n,x)::r else p::dq2 r n x
def mapIB (P:Program) (t:TypeId):Bool:=
 match P.underlying t with
 | some (.map k e)=>(match P.underlying k with | some (.int .i64)=>true | _=>false)&&(match (P.info? e).bind (fun i=>i.zero) with | some (.int .i64 n)=>decide (n=0) | _=>false)
 | _=>false
theorem lqw {P:Program} {t:TypeId} (h:mapIB P t=true):∃ k e i,P.underlying t=some (.map k e)/\P.underlying k=some (.int .i64)/\P.info? e=some i/\i.zero=some (.int .i64 0):=by
 unfold mapIB at h
 split at h
 ·rename_i k e hu
  simp only [Bool.and_eq_true] at h
  obtain ⟨h1,h2⟩:=h
  split at h1
  ·rename_i hk
   split at h2
   ·rename_i n hz
    simp only [decide_eq_true_eq] at h2
    subst h2
    cases hi:P.info? e with
    | none=>rw [hi] at hz;cases hz
    | some i=>rw [hi] at hz;exact ⟨k,e,i,hu,hk,hi,hz⟩
   ·cases h2
  ·cases h1
 ·cases h
theorem nqm (n:Int):∀ (kv:List (Int×Int)) (es:List MapEntry) (i:Nat),es.map (fun e=>(e.key,e.val))=kv.map (fun p=>(Value.int .i64 p.1,Value.int .i64 p.2))->
  (gqj kv n=none/\Instr.findNow (.int .i64) (.int .i64 n) es i=some none/\∀ x,dq2 kv n x=kv++[(n,x)])\/
  (∃ j v,gqj kv n=some v/\Instr.findNow (.int .i64) (.int .i64 n) es i=some (some (i+j,.int .i64 v))/\kv[j]? =some (n,v)/\∀ x,dq2 kv n x=kv.set j (n,x))
 | [],[],i,_=> .inl ⟨rfl,rfl,fun _=>rfl⟩
 | [],e::es,i,h=>by simp at h
 | p::kv,[],i,h=>by simp at h
 | p::kv,e::es,i,h=>by
  simp only [List.map_cons,List.cons.injEq,Prod.mk.injEq] at h
  obtain ⟨⟨hk,hv⟩,hr⟩:=h
  unfold Instr.findNow
  rw [hk,hv]
  by_cases hn:n=p.1
  ·subst hn
   right
   refine ⟨0,p.2,by simp [gqj],?_,by simp,fun x=>by simp [dq2]⟩
   simp [Instr.sameNow]
  ·have:(n==p.1)=false:=by simpa using hn
   simp only [Instr.sameNow,if_true,this]
   rcases nqm n kv es (i+1) hr with ⟨h1,h2,h3⟩ | ⟨j,v,h1,h2,h3,h4⟩
   ·exact .inl ⟨by simp [gqj,hn,h1],h2,fun x=>by simp [dq2,hn,h3]⟩
   ·exact .inr ⟨j+1,v,by simp [gqj,hn,h1],by rw [h2,Nat.add_assoc,Nat.add_comm 1 j],by simpa using h3,fun x=>by simp [dq2,hn,h4]⟩
theorem kvSet_nodup {kv:List (Int×Int)} {n x:Int} (h:(kv.map (·.1)).Nodup):((dq2 kv n x).map (·.1)).Nodup:=by
 have hk:∀ (kv:List (Int×Int)) (y:Int),y∈(dq2 kv n x).map (·.1)->y=n\/y∈kv.map (·.1):=by
  intro kv
  induction kv with
  | nil=>intro y hy;simp [dq2] at hy;exact .inl hy
  | cons p r ih=>
   intro y hy
   simp only [dq2] at hy
   split at hy
   ·rename_i e;simp only [List.map_cons,List.mem_cons] at hy ⊢
    rcases hy with rfl | hy
    ·exact .inl rfl
    ·exact .inr (.inr hy)
   ·simp only [List.map_cons,List.mem_cons] at hy ⊢
    rcases hy with rfl | hy
    ·exact .inr (.inl rfl)
    ·rcases ih y hy with h | h
     ·exact .inl h
     ·exact .inr (.inr h)
 induction kv with
 | nil=>simp [dq2]
 | cons p r ih=>
  simp only [List.map_cons,List.nodup_cons] at h
  simp only [dq2]
  split
  ·rename_i e;subst e;simp only [List.map_cons,List.nodup_cons];exact h
  ·rename_i e
   simp only [List.map_cons,List.nodup_cons]
   refine ⟨fun hm=> ?_,ih h.2⟩
   rcases hk r p.1 hm with h' | h'
   ·exact e h'.symm
   ·exact h.1 h'
section
variable {P:Program} {w0:World} {nt:Nat}
def gq1 (P:Program) (H:Heap) (t:TypeId) (x i:AV) (ok:Bool) (K:AV->Prop):Prop:=
 match x,i with
 | .mp r,.sc (.int k n)=>k= .i64/\mapIB P t=true/\match H r with
  | some (.mapI kv)=>K (if ok then .tup [I ((gqj kv n).getD 0),B (gqj kv n).isSome] else I ((gqj kv n).getD 0))
  | _=>False
 | _,_=>False
theorem mp_inv {F:Ft} {M:Mt} {r:Nat} {cv:Value} (h:VR F M (.mp r) cv):∃ g o cap es,M r 0=some (some ⟨g,o,none⟩,cap,es)/\cv= .map (some g):=by
 cases h with
 | mp hM=>exact ⟨_,_,_,_,hM,rfl⟩
theorem ok_lookup {o:Oper} {env:Env} {H:Heap} {K:Env->Heap->Prop} {t:TypeId} {x i:Operand} {c:Bool} (ho:o.op= .lookup t x i c)
  (h:gq1 P H t (evO env x) (evO env i) c (fun v=>putK nt o.dst v env (fun env'=>K env' H))):OpOK P w0 nt o env H K:=by
 refine bq6 fun w F M a r er=> ?_
 have hx:=er.ev x
 have hi:=er.ev i
 revert h hx hi
 generalize evO env x=av
 generalize evO env i=bv
 intro h hx hi
 unfold gq1 at h
 split at h
 ·rename_i rr k n
  obtain ⟨rfl,hm,h⟩:=h
  split at h
  ·rename_i kv hH
   obtain ⟨g,es,clock,hM,hFg,hg,hrep,hnd⟩:=r.blk rr _ hH
   obtain ⟨g',oo,cap,es',hM',hcv⟩:=mp_inv hx
   rw [hM] at hM';cases hM'
   obtain ⟨kt,et,inf,hu,hk,hinf,hz⟩:=lqw hm
   have hiv:=hi.sc_inv
   have hik:IsKey (.int .i64) (Value.int .i64 n):=by simp [IsKey]
   have fin:∀ (v:Int) (b:Bool),VR F M (if c then .tup [I v,B b] else I v) (if c then .tuple #[.int .i64 v,.bool b] else .int .i64 v):=by
    intro v b
    cases c with
    | false=>exact .sc _
    | true=>
     refine .tup (fun i=>(#[Value.int .i64 v,.bool b][i]?).getD undef) (by simp) ?_ ?_
     ·intro i av hi
      match i,hi with
      | 0,hi=>simp
      | 1,hi=>simp
     ·intro i av hi
      match i,hi with
      | 0,hi=>simp at hi;subst hi;exact .sc _
      | 1,hi=>simp at hi;subst hi;exact .sc _
   rcases nqm n kv es.toList 0 hrep with ⟨h1,h2,_⟩ | ⟨j,v,h1,h2,h3,_⟩
   ·rw [h1] at h
    refine ⟨if c then .tuple #[.int .i64 0,.bool false] else .int .i64 0,w,_,H,F,M,?_,Ext.refl _ _,r,fin 0 false,h⟩
    simp [execOp,ho,hcv,hiv,Instr.lookup,run_underlying hu,MapKept.run_getObj_map hg,MapKept.run_checkKey hk hik,MapKept.run_findKey hk h2,zeroValue,typeInfo,hinf,hz,Result.andThen]
   ·rw [h1] at h
    refine ⟨if c then .tuple #[.int .i64 v,.bool true] else .int .i64 v,w,_,H,F,M,?_,Ext.refl _ _,r,fin v true,h⟩
    simp [execOp,ho,hcv,hiv,Instr.lookup,run_underlying hu,MapKept.run_getObj_map hg,MapKept.run_checkKey hk hik,MapKept.run_findKey hk h2,Result.andThen]
  ·exact h.elim
 ·exact h.elim
theorem Rel.newMap {w:World} {F:Ft} {M:Mt} {H:Heap} (h:Rel w0 w F M H):
  ∃ r M',H r=none/\Ext F F M M'/\Rel w0 (w.alloc (.map #[] 0)) F M' (upd H r (some (.mapI [])))/\M' r 0=some (some ⟨w.heap.size,0,none⟩,1,1):=by
 obtain ⟨N,hN⟩:=h.fresh
 have hH:=(hN N (Nat.le_refl _)).1
 have hMN:=(hN N (Nat.le_refl _)).2
 let M':Mt:=fun s t=>if s=N/\t=0 then some (some ⟨w.heap.size,0,none⟩,1,1) else M s t
 have hM':M' N 0=some (some ⟨w.heap.size,0,none⟩,1,1):=by simp [M']
 have hnew:(w.alloc (.map #[] 0)).heap[w.heap.size]? =some (.map #[] 0):=kqs w _
 have st:=h.step (w':=w.alloc (.map #[] 0)) (M':=M') N N (.mapI []) rfl rfl rfl
  (fun b hb _=>kqr w _ b hb) (fun s t=>by
   simp only [M',Blk.gen]
   by_cases e:s=N/\t=0
   ·exact .inr e
   ·simp [e]) (fun x hx'=>by simp only [Blk.gen] at hx';rw [hMN] at hx';cases hx') (.inl rfl)
  ⟨w.heap.size,#[],0,hM',h.F_none (Nat.le_refl _),hnew,by simp [eqy],by simp,by simp [fq9]⟩
  (fun g ⟨o,cap,es,hm,_⟩=>by simp only [Blk.gen] at hm;rw [hM'] at hm;cases hm;exact .inl (Nat.le_refl _))
  (fun t _=>hMN t)
 rw [bqk] at st
 exact ⟨N,M',hH,st.1,st.2,hM'⟩
def nqa (H:Heap) (c:Option Operand) (K:AV->Heap->Prop):Prop:=
 c=none/\∀ r,H r=none->K (.mp r) (upd H r (some (.mapI [])))
theorem ok_makeMap {o:Oper} {env:Env} {H:Heap} {K:Env->Heap->Prop} {t:TypeId} {c:Option Operand} (ho:o.op= .makeMap t c)
  (h:nqa H c (fun v H'=>putK nt o.dst v env (fun env'=>K env' H'))):OpOK P w0 nt o env H K:=by
 refine bq6 fun w F M a r er=> ?_
 obtain ⟨rfl,k⟩:=h
 obtain ⟨rr,M',hr,hx,hrel,hM'⟩:=r.newMap
 refine ⟨_,_,.mp rr,_,F,M',?_,hx,hrel,.mp hM',k rr hr⟩
 simp [execOp,ho]
 rfl
def cq6 (P:Program) (H:Heap) (t:TypeId) (m k v:AV) (K:Heap->Prop):Prop:=
 match m,k,v with
 | .mp r,.sc (.int kk n),.sc (.int vk x)=>kk= .i64/\vk= .i64/\mapIB P t=true/\match H r with
  | some (.mapI kv)=>K (upd H r (some (.mapI (dq2 kv n x))))
  | _=>False
 | _,_,_=>False
theorem births_push {es:Array MapEntry} {clock:Nat} (h:fq9 es clock) (k v:Value):fq9 (es.push { key:=k,val:=v,born:=clock }) (clock+1):=by
 refine ⟨?_,fun x hx=> ?_⟩
 ·rw [Array.toList_push,List.map_append,List.nodup_append]
  refine ⟨h.1,by simp,fun a ha b hb=> ?_⟩
  obtain ⟨e,he,rfl⟩:=List.mem_map.1 ha
  have:=h.2 e he
  simp at hb
  omega
 ·rw [Array.toList_push,List.mem_append,List.mem_singleton] at hx
  rcases hx with hx | rfl
  ·have:=h.2 x hx;omega
  ·exact Nat.lt_succ_self _
theorem nqt {es:Array MapEntry} {clock j:Nat} (h:fq9 es clock) (k v:Value):fq9 (es.modify j fun e=>{ e with key:=k,val:=v }) clock:=by
 have e:(es.modify j fun e=>{ e with key:=k,val:=v }).toList.map (·.born)=es.toList.map (·.born):=by
  refine List.ext_getElem? fun q=> ?_
  rw [List.getElem?_map,List.getElem?_map,Array.getElem?_toList,Array.getElem?_toList,Array.getElem?_modify]
  by_cases c:j=q
  ·rw [if_pos c];cases es[q]? <;>rfl
  ·rw [if_neg c]
 refine ⟨by rw [e];exact h.1,fun x hx=> ?_⟩
 have:x.born∈es.toList.map (·.born):=by rw [<-e];exact List.mem_map.2 ⟨x,hx,rfl⟩
 obtain ⟨y,hy,e2⟩:=List.mem_map.1 this
 have:=h.2 y hy
 omega
theorem iq8 {o:Oper} {env:Env} {H:Heap} {K:Env->Heap->Prop} {t:TypeId} {x i y:Operand} (ho:o.op= .mapUpdate t x i y\/o.op= .insert t x i y)
  (h:cq6 P H t (evO env x) (evO env i) (evO env y) (fun H'=>putK nt o.dst (.sc undef) env (fun env'=>K env' H'))):OpOK P w0 nt o env H K:=by
 refine iq7 fun w F M a r er=> ?_
 have hx:=er.ev x
 have hi:=er.ev i
 have hy:=er.ev y
 revert h hx hi hy
 generalize evO env x=av
 generalize evO env i=bv
 generalize evO env y=dv
 intro h hx hi hy
 unfold cq6 at h
 split at h
 ·rename_i rr k n vk xx
  obtain ⟨rfl,rfl,hm,h⟩:=h
  split at h
  ·rename_i kv hH
   have hB:=r.blk rr _ hH
   obtain ⟨g,es,clock,hM,hFg,hg,hrep,hnd⟩:=hB
   obtain ⟨g',oo,cap,es',hM',hcv⟩:=mp_inv hx
   rw [hM] at hM';cases hM'
   obtain ⟨kt,et,inf,hu,hk,hinf,hz⟩:=lqw hm
   have hiv:=hi.sc_inv
   have hyv:=hy.sc_inv
   have hik:IsKey (.int .i64) (Value.int .i64 n):=by simp [IsKey]
   have hown:Owns M rr (.mapI kv) g:=⟨0,1,1,hM,fun h=>by cases h⟩
   have step:∀ (es':Array MapEntry) (clock':Nat),eqy (dq2 kv n xx) es'->fq9 es' clock'->Rel w0 { w with heap:=w.heap.setIfInBounds g (.map es' clock') } F M (upd H rr (some (.mapI (dq2 kv n xx)))):=by
    intro es' clock' hrep' hbir'
    have hh:=heap_set (o':= .map es' clock') hg
    have st:=r.step (w':={ w with heap:=w.heap.setIfInBounds g (.map es' clock') }) (M':=M) rr rr (.mapI (dq2 kv n xx)) rfl rfl rfl
     (fun b hb hno=>hh.2 b (fun e=>by subst e;exact hno _ hH hown)) (fun s t=> .inl rfl) (fun x hx=>hx) (.inl rfl)
     ⟨g,es',clock',hM,hFg,hh.1,hrep',kvSet_nodup hnd.1,hbir'⟩
     (fun g2 ⟨o,cap,es,hm2,_⟩=>by simp only [Blk.gen] at hm2;exact .inr ⟨_,hH,⟨o,cap,es,hm2,fun h=>by cases h⟩⟩)
     (fun t ht=>r.gens rr _ hH t ht)
    rw [bqk] at st
    exact st.2
   rcases nqm n kv es.toList 0 hrep with ⟨h1,h2,h3⟩ | ⟨j,v,h1,h2,h3,h4⟩
   ·refine ⟨_,_,F,M,?_,Ext.refl _ _,step (es.push { key:= .int .i64 n,val:= .int .i64 xx,born:=clock }) (clock+1) ?_ (births_push hnd.2 _ _),h⟩
    ·rcases ho with ho | ho<;>simp [execOp,ho,hcv,hiv,hyv,Instr.mapUpdate,run_underlying hu,MapKept.run_getObj_map hg,MapKept.run_checkKey hk hik,MapKept.run_findKey hk h2,MapKept.run_setObj_map _ hg,Result.andThen]
    ·rw [h3]
     unfold eqy at hrep ⊢
     simp [hrep]
   ·refine ⟨_,_,F,M,?_,Ext.refl _ _,step (es.modify j fun e=>{ e with key:= .int .i64 n,val:= .int .i64 xx }) clock ?_ (nqt hnd.2 _ _),h⟩
    ·have hke:((es[j]?).map (·.key)).getD (.int .i64 n)= .int .i64 n:=by
      unfold eqy at hrep
      have:=congrArg (fun l=>l[j]?) hrep
      simp only [List.getElem?_map,h3,Option.map_some] at this
      cases hj:es[j]? with
      | none=>rfl
      | some e=>
       rw [Array.getElem?_toList,hj] at this
       simp at this
       simp [this.1]
     simp only [Nat.zero_add] at h2
     rcases ho with ho | ho<;>
     ·simp only [execOp,ho,hcv,hiv,hyv,Instr.mapUpdate,Sem.run_bind,run_underlying hu,MapKept.run_getObj_map hg,MapKept.run_checkKey hk hik,MapKept.run_findKey hk h2,Result.andThen,hke,MapKept.run_keyThatStays hik,MapKept.run_setObj_map _ hg]
      rfl
    ·rw [h4]
     unfold eqy at hrep ⊢
     have hjl:j<kv.length:=(List.getElem?_eq_some_iff.1 h3).1
     have hlen:es.size=kv.length:=by have:=congrArg List.length hrep;simpa using this
     refine List.ext_getElem? fun q=> ?_
     have hq:=congrArg (fun l=>l[q]?) hrep
     simp only [List.getElem?_map] at hq ⊢
     rw [Array.getElem?_toList] at hq ⊢
     rw [Array.getElem?_modify,List.getElem?_set]
     by_cases e:j=q
     ·subst e
      simp [hjl,hlen,hjl]
     ·rw [if_neg e,if_neg e];exact hq
  ·exact h.elim
 ·exact h.elim
theorem fmp_inv {F:Ft} {M:Mt} {kv:List (Int×Int)} {cv:Value} (h:VR F M (.fmp kv) cv):∃ g es clock,F g=some (.map es clock)/\eqy kv es/\fq9 es clock/\cv= .map (some g):=by
 cases h with
 | fmp hF hr hb=>exact ⟨_,_,_,hF,hr,hb,rfl⟩
theorem Rel.freezeMap {w:World} {F:Ft} {M:Mt} {H:Heap} (h:Rel w0 w F M H) {r:Nat} {kv:List (Int×Int)} (hr:H r=some (.mapI kv)):
  ∃ F',Ext F F' M M/\Rel w0 w F' M (upd H r none)/\∀ cv,VR F M (.mp r) cv->VR F' M (.fmp kv) cv:=by
 obtain ⟨g,es,clock,hM,hFg,hg,hrep,hnd,hb⟩:=h.blk r _ hr
 have st:=h.freeze r _ hr g ⟨0,1,1,hM,fun h=>by cases h⟩ _ hg
 refine ⟨_,st.1,st.2,fun cv hcv=> ?_⟩
 obtain ⟨g',o,cap,es',hM',rfl⟩:=mp_inv hcv
 rw [hM] at hM';cases hM'
 exact .fmp (aqj _ _ _) hrep hb
def lqi (H:Heap) (x:AV) (K:AV->Heap->Prop):Prop:=
 match x with
 | .fmp kv=>∀ r,H r=none->K (.ptr r 0 0) (upd H r (some (.iter kv kv.length none)))
 | _=>False
theorem Rel.newIter {w:World} {F:Ft} {M:Mt} {H:Heap} (h:Rel w0 w F M H) {gm clock:Nat} {es:Array MapEntry} {kv:List (Int×Int)} (hF:F gm=some (.map es clock)) (hrep:eqy kv es) (hb:fq9 es clock):
  ∃ r M',H r=none/\Ext F F M M'/\Rel w0 (w.alloc (.mapIter (some gm) clock #[] clock)) F M' (upd H r (some (.iter kv kv.length none)))/\M' r 0=some (some ⟨w.heap.size,0,none⟩,1,1):=by
 obtain ⟨N,hN⟩:=h.fresh
 have hH:=(hN N (Nat.le_refl _)).1
 have hMN:=(hN N (Nat.le_refl _)).2
 let M':Mt:=fun s t=>if s=N/\t=0 then some (some ⟨w.heap.size,0,none⟩,1,1) else M s t
 have hM':M' N 0=some (some ⟨w.heap.size,0,none⟩,1,1):=by simp [M']
 have hnew:(w.alloc (.mapIter (some gm) clock #[] clock)).heap[w.heap.size]? =some (.mapIter (some gm) clock #[] clock):=kqs w _
 have hlen:kv.length=(leftOf es #[]).size:=by
  have h1:leftOf es #[]=es:=by unfold leftOf;exact Array.filter_eq_self.2 (fun x hx=>by simp)
  rw [h1]
  unfold eqy at hrep
  have:=congrArg List.length hrep
  simpa using this.symm
 have st:=h.step (w':=w.alloc (.mapIter (some gm) clock #[] clock)) (M':=M') N N (.iter kv kv.length none) rfl rfl rfl
  (fun b hb _=>kqr w _ b hb) (fun s t=>by
   simp only [M',Blk.gen]
   by_cases e:s=N/\t=0
   ·exact .inr e
   ·simp [e]) (fun x hx'=>by simp only [Blk.gen] at hx';rw [hMN] at hx';cases hx') (.inl rfl)
  ⟨w.heap.size,gm,es,clock,#[],hM',h.F_none (Nat.le_refl _),hnew,hF,hrep,hb,hlen,fun x hx=>by cases hx⟩
  (fun g ⟨o,cap,es,hm,_⟩=>by simp only [Blk.gen] at hm;rw [hM'] at hm;cases hm;exact .inl (Nat.le_refl _))
  (fun t _=>hMN t)
 rw [bqk] at st
 exact ⟨N,M',hH,st.1,st.2,hM'⟩
def mapB (P:Program) (t:TypeId):Bool:=
 match P.underlying t with
 | some (.map _ _)=>true
 | _=>false
theorem ok_range {o:Oper} {env:Env} {H:Heap} {K:Env->Heap->Prop} {t:TypeId} {x:Operand} (ho:o.op= .range t x) (ht:mapB P t=true)
  (h:lqi H (evO env x) (fun v H'=>putK nt o.dst v env (fun env'=>K env' H'))):OpOK P w0 nt o env H K:=by
 refine bq6 fun w F M a r er=> ?_
 have hx:=er.ev x
 revert h hx
 generalize evO env x=av
 intro h hx
 unfold lqi at h
 split at h
 ·rename_i kv
  obtain ⟨g,es,clock,hF,hrep,hb,hcv⟩:=fmp_inv hx
  have hg:=r.hF _ _ hF
  obtain ⟨rr,M',hr,hx',hrel,hM'⟩:=r.newIter hF hrep hb
  refine ⟨_,_,.ptr rr 0 0,_,F,M',?_,hx',hrel,.ptr hM',h rr hr⟩
  unfold mapB at ht
  split at ht
  ·rename_i kt et hu
   simp [execOp,ho,hcv,Instr.range,run_underlying hu,MapKept.run_getObj_map hg,Result.andThen]
  ·cases ht
 ·exact h.elim
def nextK (H:Heap) (it:AV) (str:Bool) (K:AV->Heap->Prop):Prop:=
 match it with
 | .ptr r 0 0=>str=false/\match H r with
  | some (.iter kv left _)=>(left=0->K (.tup [B false]) H)/\∀ x∈kv,∀ l,l<left->K (.tup [B true,I x.1,I x.2]) (upd H r (some (.iter kv l (some x))))
  | _=>False
 | _=>False
theorem tup_one {F:Ft} {M:Mt} {a:AV} {v:Value} (h:VR F M a v):VR F M (.tup [a]) (.tuple #[v]):=by
 refine .tup (fun i=>(#[v][i]?).getD undef) (by simp) ?_ ?_
 ·intro i av hi
  match i,hi with
  | 0,hi=>simp
 ·intro i av hi
  match i,hi with
  | 0,hi=>simp at hi;subst hi;exact h
theorem tup_two {F:Ft} {M:Mt} {a b:AV} {v u:Value} (h:VR F M a v) (h':VR F M b u):VR F M (.tup [a,b]) (.tuple #[v,u]):=by
 refine .tup (fun i=>(#[v,u][i]?).getD undef) (by simp) ?_ ?_
 ·intro i av hi
  match i,hi with
  | 0,hi=>simp
  | 1,hi=>simp
 ·intro i av hi
  match i,hi with
  | 0,hi=>simp at hi;subst hi;exact h
  | 1,hi=>simp at hi;subst hi;exact h'
theorem tup_three {F:Ft} {M:Mt} {a b c:AV} {v u x:Value} (h:VR F M a v) (h':VR F M b u) (h'':VR F M c x):VR F M (.tup [a,b,c]) (.tuple #[v,u,x]):=by
 refine .tup (fun i=>(#[v,u,x][i]?).getD undef) (by simp) ?_ ?_
 ·intro i av hi
  match i,hi with
  | 0,hi=>simp
  | 1,hi=>simp
  | 2,hi=>simp
 ·intro i av hi
  match i,hi with
  | 0,hi=>simp at hi;subst hi;exact h
  | 1,hi=>simp at hi;subst hi;exact h'
  | 2,hi=>simp at hi;subst hi;exact h''
theorem rep_mem {kv:List (Int×Int)} {es:Array MapEntry} (h:eqy kv es) {e:MapEntry} (he:e∈es.toList):∃ x∈kv,e.key= .int .i64 x.1/\e.val= .int .i64 x.2:=by
 unfold eqy at h
 have:(e.key,e.val)∈es.toList.map (fun e=>(e.key,e.val)):=List.mem_map.2 ⟨e,he,rfl⟩
 rw [h] at this
 obtain ⟨x,hx,e2⟩:=List.mem_map.1 this
 simp only [Prod.mk.injEq] at e2
 exact ⟨x,hx,e2.1.symm,e2.2.symm⟩
theorem ptr0_inv {F:Ft} {M:Mt} {r:Nat} {cv:Value} (h:VR F M (.ptr r 0 0) cv):∃ g o cap es,M r 0=some (some ⟨g,o,none⟩,cap,es)/\cv= .pointer (some ⟨g,o,none⟩):=by
 obtain ⟨g,o,cap,es,hM,rfl⟩:=h.ptr_inv
 exact ⟨g,o,cap,es,hM,rfl⟩
theorem ok_next {o:Oper} {env:Env} {H:Heap} {K:Env->Heap->Prop} {x:Operand} {str:Bool} (ho:o.op= .next x str)
  (h:nextK H (evO env x) str (fun v H'=>putK nt o.dst v env (fun env'=>K env' H'))):OpOK P w0 nt o env H K:=by
 refine bq6 fun w F M a r er=> ?_
 have hx:=er.ev x
 revert h hx
 generalize evO env x=av
 intro h hx
 unfold nextK at h
 split at h
 ·rename_i rr
  obtain ⟨rfl,h⟩:=h
  split at h
  ·rename_i kv left cur hH
   obtain ⟨g,gm,es,clock,seen,hM,hFg,hg,hFm,hrep,hbir,hleft,hcur⟩:=r.blk rr _ hH
   obtain ⟨g',o',cap,es',hM',hcv⟩:=ptr0_inv hx
   rw [hM] at hM';cases hM'
   have hgm:=r.hF _ _ hFm
   rcases run_next_at (P:=P) w o.type g gm clock clock seen es clock hg hgm hbir.2 (Nat.le_refl _) with ⟨h0,hrun⟩ | ⟨e,he,w1,hw1,hrun⟩
   ·refine ⟨_,_,_,H,F,M,?_,Ext.refl _ _,r,tup_one (.sc _),h.1 (by rw [hleft];exact h0)⟩
    simp [execOp,ho,hcv,hrun]
   ·obtain ⟨y,hy,hk,hv⟩:=rep_mem hrep (mem_left he).1
    have r1:Rel w0 w1 F M H:=by rcases hw1 with rfl | rfl;exact r;exact r.drew
    have hg1:w1.heap[g]? =some (.mapIter (some gm) clock seen clock):=by rcases hw1 with rfl | rfl<;>exact hg
    have hlt:=left_shrinks es seen e he
    have v1:∀ M:Mt,VR F M (I y.1) e.key:=fun M=>by rw [hk];exact .sc _
    have v2:∀ M:Mt,VR F M (I y.2) e.val:=fun M=>by rw [hv];exact .sc _
    have hown:Owns M rr (.iter kv left cur) g:=⟨0,1,1,hM,fun h=>by cases h⟩
    have hh:=heap_set (o':= .mapIter (some gm) clock (seen.push e.born) clock) hg1
    have st:=r1.step (w':=Go.ChangeMaps.setBlock w1 g (.mapIter (some gm) clock (seen.push e.born) clock)) (M':=M) rr rr (.iter kv (leftOf es (seen.push e.born)).size (some y)) rfl rfl rfl
     (fun b hb hno=>hh.2 b (fun e=>by subst e;exact hno _ hH hown)) (fun s t=> .inl rfl) (fun x hx=>hx) (.inl rfl)
     ⟨g,gm,es,clock,seen.push e.born,hM,hFg,hh.1,hFm,hrep,hbir,rfl,fun x hx=>by cases hx;exact ⟨e,(mem_left he).1,seen,rfl,hk,hv⟩⟩
     (fun g2 ⟨o,cap,es,hm2,_⟩=>by simp only [Blk.gen] at hm2;exact .inr ⟨_,hH,⟨o,cap,es,hm2,fun h=>by cases h⟩⟩)
     (fun t ht=>r1.gens rr _ hH t ht)
    rw [bqk] at st
    refine ⟨_,_,.tup [B true,I y.1,I y.2],_,F,M,?_,st.1,st.2,tup_three (.sc (.bool true)) (v1 _) (v2 _),h.2 y hy _ (by rw [hleft];exact hlt)⟩
    simp [execOp,ho,hcv,hrun]
  ·exact h.elim
 ·exact h.elim
def lq8 (H:Heap) (it:AV) (K:AV->Prop):Prop:=
 match it with
 | .ptr r 0 0=>match H r with
  | some (.iter _ _ (some x))=>K (.tup [I x.1,I x.2])
  | _=>False
 | _=>False
theorem ok_entry {o:Oper} {env:Env} {H:Heap} {K:Env->Heap->Prop} {x:Operand} (ho:o.op= .entry x)
  (h:lq8 H (evO env x) (fun v=>putK nt o.dst v env (fun env'=>K env' H))):OpOK P w0 nt o env H K:=by
 refine bq6 fun w F M a r er=> ?_
 have hx:=er.ev x
 revert h hx
 generalize evO env x=av
 intro h hx
 unfold lq8 at h
 split at h
 ·rename_i rr
  split at h
  ·rename_i kv left y hH
   obtain ⟨g,gm,es,clock,seen,hM,hFg,hg,hFm,hrep,hbir,hleft,hcur⟩:=r.blk rr _ hH
   obtain ⟨g',o',cap,es',hM',hcv⟩:=ptr0_inv hx
   rw [hM] at hM';cases hM'
   have hgm:=r.hF _ _ hFm
   obtain ⟨e,he,seen',rfl,hk,hv⟩:=hcur y rfl
   have v1:VR F M (I y.1) e.key:=by rw [hk];exact .sc _
   have v2:VR F M (I y.2) e.val:=by rw [hv];exact .sc _
   have hrun:=run_entry_at (P:=P) w g gm clock seen' es clock e hg hgm he hbir.1
   refine ⟨_,_,_,H,F,M,?_,Ext.refl _ _,r,tup_two v1 v2,h⟩
   simp [execOp,ho,hcv,hrun]
  ·exact h.elim
 ·exact h.elim
def mqg (P:Program) (t:TypeId) (x:AV) (K:AV->Prop):Prop:=
 match x with
 | .sl cells len=>match arE P t with
  | some (n,_)=>n<=len/\0<cells.length/\K (.eptr cells 0)
  | none=>False
 | _=>False
theorem ok_arrAt {o:Oper} {env:Env} {H:Heap} {K:Env->Heap->Prop} {t:TypeId} {x:Operand} (ho:o.op= .sliceToArrayPointer t x)
  (h:mqg P t (evO env x) (fun v=>putK nt o.dst v env (fun env'=>K env' H))):OpOK P w0 nt o env H K:=by
 refine bq6 fun w F M a r er=> ?_
 have hx:=er.ev x
 revert h hx
 generalize evO env x=av
 intro h hx
 unfold mqg at h
 split at h
 ·rename_i cells len
  split at h
  ·rename_i n e ha
   have hu:=arE_eq ha
   obtain ⟨hn,hp,h⟩:=h
   obtain ⟨a',c,hcv,_,hz | ⟨b,off,cs,e,fz,rfl,hF,hC⟩⟩:=VR.sl_inv hx
   ·rw [hz.1] at hp;simp at hp
   ·obtain ⟨f,h1,h2,ho'⟩:=hC.fn
    refine ⟨.pointer (some ⟨b,off+0,none⟩),w,.eptr cells 0,H,F,M,?_,Ext.refl _ _,r,.eptr f hF h1 h2 ho',h⟩
    simp [execOp,ho,hcv,Instr.arrayAt,run_underlying hu,Nat.not_lt.2 hn]
  ·exact h.elim
 ·exact h.elim
end
end Go.Am
