/- Contracts and plain laws that the law InterTurnsG needs, part 5. -/
import Derived.Test.YtcdcombogmflkaaGreatDoorZInterTurnsG4
import Derived.KernelRfl
import Derived.Deep.Slices
import Derived.Carry
import Derived.ChangeOld
import Derived.OpenShut
import Derived.WalkKit
import Derived.ProofKit
import Derived.SizedLaws
import Derived.Sort.Row
import Derived.Sort.Grow
namespace Go.Am
open Go
section
variable {P:Program} {w0:World} {nt:Nat}
theorem w_reg (own:List Nat) {id:Nat} {ops:Array Oper} {y:Code} {Q:Exit->Env->Heap->Prop} {env:Env} {H:Heap}
  (h:∀ K:Env->Heap->Prop,(∀ e h,AWP P w0 nt y Q e h->K e h)->bqv P w0 nt own ops ops.toList env H K):AWP P w0 nt (.seq (.region id ops false) y) Q env H:=
 iqy (mqf own (h _ fun _ _ h=>h))
theorem w_reg1 (own:List Nat) {id:Nat} {ops:Array Oper} {Q:Exit->Env->Heap->Prop} {env:Env} {H:Heap}
  (h:∀ K:Env->Heap->Prop,(∀ e h,Q .normal e h->K e h)->bqv P w0 nt own ops ops.toList env H K):AWP P w0 nt (.region id ops false) Q env H:=
 mqf own (h _ fun _ _ h=>h)
theorem w_draw (hm:P.follows .mixedOrders=true) (own st:List Nat) {id:Nat} {ops:Array Oper} {y:Code} {Q:Exit->Env->Heap->Prop} {env:Env} {H:Heap} (hok:fqh own st nt ops (List.range ops.size)=true)
  (h:∀ K:Env->Heap->Prop,(∀ e h,AWP P w0 nt y Q e h->K e h)->dq4 P w0 nt own st ops ops.toList env H K):AWP P w0 nt (.seq (.region id ops true) y) Q env H:=
 iqy (awp_draw hm own st hok (h _ fun _ _ h=>h))
theorem w_draw1 (hm:P.follows .mixedOrders=true) (own st:List Nat) {id:Nat} {ops:Array Oper} {Q:Exit->Env->Heap->Prop} {env:Env} {H:Heap} (hok:fqh own st nt ops (List.range ops.size)=true)
  (h:∀ K:Env->Heap->Prop,(∀ e h,Q .normal e h->K e h)->dq4 P w0 nt own st ops ops.toList env H K):AWP P w0 nt (.region id ops true) Q env H:=
 awp_draw hm own st hok (h _ fun _ _ h=>h)
theorem w_draw_order (hm:P.follows .mixedOrders=true) (own st L:List Nat) {id:Nat} {ops:Array Oper} {y:Code} {Q:Exit->Env->Heap->Prop} {env:Env} {H:Heap} (hok:fqh own st nt ops L=true)
  (h:∀ K:Env->Heap->Prop,(∀ e h,AWP P w0 nt y Q e h->K e h)->runD P w0 nt own st ops L env H K):AWP P w0 nt (.seq (.region id ops true) y) Q env H:=
 iqy (gqp hm own st L hok (h _ fun _ _ h=>h))
theorem aqf {f:FuncId} {fn:Func} {c:Code} {ts:List Tmp} {args:List AV} {H:Heap} {K:AV->Heap->Prop}
  (hf:P.funcs[f]? =some fn) (hb:fn.body=some c) (hn:fn.ntmps=nt) (ht:fn.results=(ts.map ResultVar.tmp).toArray) (hl:args.length<=nt)
  (hc:dqq P f=true) (h:AWP P w0 nt c (eqn ts K) (argEnv args) H):aqo P w0 f args H K:=by
 subst hn
 exact acalls_of hf hb ht hl hc h
def condK (v:AV) (x y:Prop):Prop:=
 match v with
 | .sc (.bool t)=>(t=true->x)/\(t=false->y)
 | _=>False
theorem aqb {c:Operand} {x y:Code} {Q:Exit->Env->Heap->Prop} {env:Env} {H:Heap}
  (h:∀ A B:Prop,(AWP P w0 nt x Q env H->A)->(AWP P w0 nt y Q env H->B)->condK (evO env c) A B):AWP P w0 nt (.cond c x y) Q env H:=by
 have h0:=h _ _ id id
 unfold condK at h0
 split at h0
 ·rename_i t e;exact awp_cond e h0.1 h0.2
 ·exact h0.elim
theorem inBlock_hit {id:Nat} {Q:Exit->Env->Heap->Prop} {env:Env} {H:Heap} (h:Q .normal env H):eqo id Q (.exit id) env H:=by
 simp [eqo];exact h
theorem then_exit {n:Env->Heap->Prop} {Q:Exit->Env->Heap->Prop} {i:Nat} {env:Env} {H:Heap} (h:Q (.exit i) env H):Then n Q (.exit i) env H:=h
theorem then_ret {n:Env->Heap->Prop} {Q:Exit->Env->Heap->Prop} {env:Env} {H:Heap} (h:Q .ret env H):Then n Q .ret env H:=h
theorem lqa {id:Nat} {Q:Exit->Env->Heap->Prop} {env:Env} {H:Heap} (h:Q .normal env H):eqo id Q .normal env H:=h
theorem inBlock_ret {id:Nat} {Q:Exit->Env->Heap->Prop} {env:Env} {H:Heap} (h:Q .ret env H):eqo id Q .ret env H:=h
theorem post_ret {ts:List Tmp} {K:AV->Heap->Prop} {env:Env} {H:Heap} (h:K (resA ts env) H):eqn ts K .ret env H:=h
def natA:AV->Nat
 | .sc (.int _ n)=>n.toNat
 | _=>0
@[reducible] def ints (l:List Int):AV:= .sl (l.map I) l.length
@[reducible] def rows (l:List (List Int)):AV:= .sl (l.map ints) l.length
@[reducible] def bqy (l:List (Int×Int)):AV:= .sl (l.flatMap fun e=>[I e.1,I e.2]) l.length
theorem gqs {α:Type} (e:Nat->α) (i:Nat) (v:α) (j:Nat):upd e i v j=if j=i then v else e j:=rfl
attribute [simp] bqv stepA cq0 gqr fqi ownD eqi isNilO opC opX fqv pickK putK evO condK natA dq4 cqy cqr inSt allSt
attribute [simp] jqk iqr storeK setL fqu kql boxK AV.cells AV.cellsOne AV.one binK mq0 isConstO binA jqm eqA eqS unK convK ifaceK iq0 kqm funcK eq4 gqi intA dq6 dqu cq8 lq7 lq1 gqf lenK eq7 callK
attribute [simp] gq1 nqa cq6 lqi nextK lq8 mqg i64ok gqs argEnv resA wk gqq dqt bqi buildK jql appK growK capK iq1 copyK mqc zrep_one gq9
theorem setAt_arr {H:Heap} {r es n:Nat} {e:TypeId} {cells cells':List AV} (h:H r=some (.arr es e cells n)):kq4 H r cells'=upd H r (some (.arr es e cells' n)):=by simp [kq4,h]
end
end Go.Am
namespace Go.Am
open Go Go.RowKit Go.ChangeShapes Go.WideShapes Go.Deep
set_option linter.unusedVariables false
set_option linter.unusedSimpArgs false
def FW (w0:World):Ft:=fun b=>w0.heap[b]?
def MW:Mt:=fun _ _=>none
def HW:Heap:=fun _=>none
theorem Rel.start (w0:World):Rel w0 w0 (FW w0) MW HW:=by
 refine ⟨rfl,rfl,rfl,fun _ _=>rfl,fun _ _ h=>h,?_,?_,?_,⟨0,fun _ _=>⟨rfl,fun _=>rfl⟩⟩⟩<;>simp [HW]
theorem law_closes {P:Program} {w0:World} {f:FuncId} {args:List AV} {cargs:Array Value} (h:aqo P w0 f args HW (fun v _=>v=B true))
  (hv:VRL (FW w0) MW args cargs.toList):Calls P f cargs w0 fun e w'=>e= .returned (.bool true)/\Below w0.heap.size w0 w':=by
 refine (h.2 w0 _ _ cargs (Rel.start w0) hv).mono ?_
 rintro e w' ⟨v,cv,H',F',M',he,_,hr,hvr,rfl⟩
 have:=VR.sc_inv hvr
 subst this
 exact ⟨he,hr.below⟩
section
variable {H:Type}
def iq4 (H:Type) (enc:TypeId×Value->H) (P:Program) (w0:World) (t:TypeId) {α:Type} (f:α->List AV) (Q:α->Prop):Prop:=
 ∀ fuel cs (d:DataW H) ps,DataW.trod enc P w0 0 (fun _=>true) true fuel t cs=some (d,ps)->(∀ n∈d.weights P t,n<=reachBytes)->
  ∃ x:α,VRL (FW w0) MW (f x) cs/\(∀ a∈f x,a.one=true)/\Q x
variable {enc:TypeId×Value->H} {P:Program} {w0:World}
theorem fqr {t:TypeId} {k:IntKind} (ht:P.underlying t=some (.int k)):iq4 H enc P w0 t (fun n=>[.sc (.int k n)]) (fun n=>(Lit.int k n).wf=true):=by
 intro fuel cs d ps h _
 obtain ⟨n,rfl,_,hw⟩:=DataW.trod_int ht h
 exact ⟨n,.cons (.sc _) .nil,by simp [AV.one,Value.oneCell'],hw⟩
theorem VRC.flat {F:Ft} {M:Mt} {α:Type} {f:α->List AV} {cs:Array Value} (m:Nat):∀ (l:List α) (o:Nat),(∀ x∈l,(f x).length=m)->
  (∀ (k:Nat) (x:α),l[k]? =some x->VRC F M (f x) cs (o+k*m))->VRC F M (l.flatMap f) cs o
 | [],o,_,_=>by intro i av h;simp at h
 | x::l,o,hm,h=>by
  intro i av ha
  rw [List.flatMap_cons,List.getElem?_append] at ha
  have hx:(f x).length=m:=hm x (by simp)
  rw [hx] at ha
  by_cases hi:i<m
  ·rw [if_pos hi] at ha
   have:=h 0 x rfl i av ha
   simpa using this
  ·rw [if_neg hi] at ha
   have ih:=VRC.flat (F:=F) (M:=M) (f:=f) (cs:=cs) m l (o+m) (fun y hy=>hm y (by simp [hy]))
    (fun k y hy=>by have:=h (k+1) y (by simpa using hy);rwa [Nat.succ_mul,Nat.add_comm (k*m) m,<-Nat.add_assoc] at this) (i-m) av ha
   have e:o+m+(i-m)=o+i:=by omega
   rw [e] at ih;exact ih
theorem gqn {t e:TypeId} {α:Type} [Inhabited α] {f:α->List AV} {Q:α->Prop} (ht:P.underlying t=some (.slice e)) (hc:0<P.cellsOf e) {fuel:Nat} {cs:List Value} {d:DataW H} {ps:List MemPlace}
  (h:DataW.trod enc P w0 0 (fun _=>true) true fuel t cs=some (d,ps)) (hw:∀ n∈d.weights P t,n<=reachBytes)
  (he:∀ fuel' cs' (d':DataW H) ps',SizeOf.sizeOf d'<SizeOf.sizeOf d->DataW.trod enc P w0 0 (fun _=>true) true fuel' e cs'=some (d',ps')->(∀ n∈d'.weights P e,n<=reachBytes)->∃ x:α,VRL (FW w0) MW (f x) cs'/\(∀ a∈f x,a.one=true)/\Q x):
  ∃ l:List α,VRL (FW w0) MW [.sl (l.flatMap f) l.length] cs/\(∀ a∈[AV.sl (l.flatMap f) l.length],a.one=true)/\l.length*P.bytesOf e<=reachBytes/\∀ x∈l,Q x:=by
 rcases open_slice ht h with ⟨rfl,hx⟩ | ⟨a,len,cap,m,n,D,Pl,rfl,hb,hl,hm,hmm,hx,hxs⟩
 ·exact ⟨[],.cons .sl0 .nil,by simp [AV.one],by simp⟩
 ·simp only [if_true] at hmm
  subst hmm
  obtain ⟨rfl,rfl⟩:=Prod.mk.inj hx
  have hW:∀ i,i<len->∀ n∈(D i).weights P e,n<=reachBytes:=by
   intro i hi n hn
   apply hw
   simp only [DataW.weights,ht]
   refine List.mem_cons_of_mem _ (List.mem_append_left _ ?_)
   have:∀ (l:List (DataW H)) (d:DataW H),d∈l->n∈d.weights P e->n∈DataW.weightsAll P e l:=by
    intro l;induction l with
    | nil=>intro d hd;simp at hd
    | cons d' l ih=>
     intro d hd hn
     simp only [DataW.weightsAll,List.mem_append]
     rcases List.mem_cons.1 hd with rfl | hd
     ·exact .inl hn
     ·exact .inr (ih d hd hn)
   exact this _ (D i) (List.mem_map.2 ⟨i,List.mem_range.2 hi,rfl⟩) hn
  have hE:∀ i,i<len->∃ x:α,(∃ cs',w0.cells? 0 (a.add (i*P.cellsOf e)) (P.cellsOf e)=some cs'/\VRL (FW w0) MW (f x) cs')/\(∀ a∈f x,a.one=true)/\Q x:=by
   intro i hi
   obtain ⟨cs',h1,h2⟩:=hxs i (by omega)
   obtain ⟨x,hx1,hx2,hx3⟩:=he _ _ _ _ (by have:=List.sizeOf_lt_of_mem (a:=D i) (as:=(List.range len).map D) (List.mem_map.2 ⟨i,List.mem_range.2 hi,rfl⟩);simp only [DataW.slice.sizeOf_spec];omega) h2 (hW i hi)
   exact ⟨x,⟨cs',h1,hx1⟩,hx2,hx3⟩
  obtain ⟨X,hX⟩:=choose_lt hE
  have hsz:len*P.bytesOf e<=reachBytes:=by
   have:=hw ((((List.range len).map D).length+((List.range (m-len)).map fun j=>D (len+j)).length)*P.bytesOf e) (by simp [DataW.weights,ht])
   refine Nat.le_trans (Nat.mul_le_mul_right _ ?_) this
   simp
  refine ⟨(List.range len).map X,?_,by simp [AV.one],by simpa using hsz,?_⟩
  ·by_cases h0:len=0
   ·subst h0
    exact .cons (by simpa using VR.sl0) .nil
   have hlen:0<len:=by omega
   obtain ⟨⟨cs0,hc0,_⟩,_⟩:=hX 0 hlen
   obtain ⟨_,hl0,hg0⟩:=World.cells?_some hc0
   have hcell:=hg0 0 hc
   have hcs0:∃ v,cs0[0]? =some v:=⟨cs0[0],by simp⟩
   obtain ⟨v0,hv0⟩:=hcs0
   rw [hv0] at hcell
   simp only [Nat.zero_mul,Addr.add,if_true] at hcell
   obtain ⟨g,o,spot⟩:=a
   simp only [World.cell?] at hcell
   split at hcell
   case h_2=>simp at hcell
   rename_i c ty fz hb'
   have hsp:spot=none:=by
    cases spot with
    | none=>rfl
    | some s=>simp at hcell
   subst hsp
   have hvrc:VRC (FW w0) MW (((List.range len).map X).flatMap f) c o:=by
    refine VRC.flat (P.cellsOf e) _ _ ?_ ?_
    ·intro x hx
     obtain ⟨i,hi,rfl⟩:=List.mem_map.1 hx
     obtain ⟨⟨cs',h1,h2⟩,_⟩:=hX i (List.mem_range.1 hi)
     rw [h2.1,(World.cells?_some h1).2.1]
    ·intro k x hk
     have hk':k<len:=by
      have:=(List.getElem?_eq_some_iff.1 hk).1
      simpa using this
     have hxk:x=X k:=by
      simp [hk'] at hk;exact hk.symm
     subst hxk
     obtain ⟨⟨cs',h1,h2⟩,hone,_⟩:=hX k hk'
     obtain ⟨_,hl1,hg1⟩:=World.cells?_some h1
     intro j av hj
     obtain ⟨cv,hcv,hvr⟩:=h2.get hj
     refine ⟨hone _ (List.mem_of_getElem? hj),cv,?_,hvr⟩
     have hjl:j<P.cellsOf e:=by rw [<-hl1];exact (List.getElem?_eq_some_iff.1 hcv).1
     have:=hg1 j hjl
     rw [hcv] at this
     rw [<-this]
     have hadd:(Addr.add (Addr.add ⟨g,o,none⟩ (k*P.cellsOf e)) j)=⟨g,o+k*P.cellsOf e+j,none⟩:=by
      unfold Addr.add
      split<;>split<;>simp_all
     rw [hadd]
     simp [World.cell?,hb']
   obtain ⟨fn,h1,h2,h3⟩:=hvrc.fn
   have hF:FW w0 g=some (.cells c ty fz):=hb'
   have:=VR.sl (n:=len) (c:=m) fn hF hl h1 h2 h3
   refine .cons ?_ .nil
   simpa using this
  ·intro x hx
   obtain ⟨i,hi,rfl⟩:=List.mem_map.1 hx
   exact (hX i (List.mem_range.1 hi)).2.2
theorem gqv {t e:TypeId} {α:Type} [Inhabited α] {f:α->List AV} {Q:α->Prop} (ht:P.underlying t=some (.slice e)) (he:iq4 H enc P w0 e f Q) (hc:0<P.cellsOf e):
  iq4 H enc P w0 t (fun l:List α=>[.sl (l.flatMap f) l.length]) (fun l=>l.length*P.bytesOf e<=reachBytes/\∀ x∈l,Q x):=
 fun _ _ _ _ h hw=>gqn ht hc h hw fun fuel' cs' d' ps' _=>he fuel' cs' d' ps'
theorem opens_map {t:TypeId} {α β:Type} {f:α->List AV} {Q:α->Prop} {g:β->List AV} {R:β->Prop} (u:α->β) (h:iq4 H enc P w0 t f Q) (hf:∀ x,Q x->g (u x)=f x) (hq:∀ x,Q x->R (u x)):iq4 H enc P w0 t g R:=by
 intro fuel cs d ps ht hw
 obtain ⟨x,h1,h2,h3⟩:=h fuel cs d ps ht hw
 exact ⟨u x,by rw [hf x h3];exact h1,by rw [hf x h3];exact h2,hq x h3⟩
theorem VRL.split {F:Ft} {M:Mt} {a b:List AV} {cs:List Value} {n m:Nat} (h:VRL F M a ((cs.drop 0).take n)) (k:VRL F M b ((cs.drop n).take m)) (hl:cs.length=n+m):VRL F M (a++b) cs:=by
 have:=h.append k
 have e:(cs.drop 0).take n++(cs.drop n).take m=cs:=by
  rw [List.drop_zero]
  have:(cs.drop n).take m=cs.drop n:=List.take_of_length_le (by simp;omega)
  rw [this,List.take_append_drop]
 rwa [e] at this
def Walks (H:Type) (enc:TypeId×Value->H) (P:Program) (n:FuncId) (ts:List TypeId):Prop:=
 ∀ (w0:World) (base:Nat) (cargs:Array Value) (ds:List (DataW H)) (ps:List MemPlace),DataW.TrodAll enc P w0 0 (fun _=>true) true ts cargs.toList ds ps->
  (∀ (j:Nat) t v,ts[j]? =some t->cargs[j]? =some v->Value.okWide P w0 .any base t v)->
  (∀ n∈DataW.weightsEach P ts ds,n<=reachBytes)->∃ args,VRL (FW w0) MW args cargs.toList/\aqo P w0 n args HW (fun v _=>v=B true)
theorem iq6 {W W':World} (hl:laidOutB P=true) (hb:Below W.heap.size W W'):∀ (ts:List TypeId) (vs:List Value) (ds:List (DataW H)) (ps:List MemPlace),
  (∀ t∈ts,P.readableRec t=true/\t<P.types.size)->DataW.TrodAll enc P W 0 (fun _=>true) true ts vs ds ps->DataW.TrodAll enc P W' 0 (fun b=>decide (b<W.heap.size)) true ts vs ds ps
 | [],vs,ds,ps,_,h=>by
  obtain ⟨rfl,rfl,rfl⟩:=trodAll_nil h
  simp [DataW.TrodAll]
 | t::ts,vs,ds,ps,ht,h=>by
  obtain ⟨v,vs',d,ds',p,q,rfl,rfl,rfl,h1,h2⟩:=trodAll_cons h
  refine ⟨p,q,?_,iq6 hl hb ts _ _ _ (fun u hu=>ht u (by simp [hu])) h2,rfl⟩
  refine Below.trod hl (ht t (by simp)).1 (ht t (by simp)).2 h1 hb ?_
  obtain ⟨m,hm⟩:=h1
  exact fun x hx=>DataW.trod_lt m _ _ _ hm x hx
end
end Go.Am
namespace Go.Am
open Go
set_option linter.unusedVariables false
set_option linter.unusedSimpArgs false
section
variable {P:Program} {w0:World} {nt:Nat}
def cut (es:Nat) (cells:List AV) (off len:Nat):AV:= .sl ((cells.drop (off*es)).take (len*es)) len
theorem Rel.freezeAs {w:World} {F:Ft} {M:Mt} {H:Heap} (h:Rel w0 w F M H) {r es top:Nat} {e:TypeId} {cells cells':List AV} (hr:H r=some (.arr es e cells top)) (hl:cells'.length=cells.length)
  (conv:∀ (i:Nat) (av av':AV),cells[i]? =some av->cells'[i]? =some av'->av'.one=true/\∀ cv,VR F M av cv->VR F M av' cv):
  ∃ F',Ext F F' M M/\Rel w0 w F' M (upd H r none)/\∀ off len cv,VR F M (.ref r off len top) cv->VR F' M (cut es cells' off len) cv:=by
 obtain ⟨hcl,hes,a,cap,hM,hn,hmax,hz⟩:=h.blk r _ hr
 by_cases hcap:cap=0
 ·refine ⟨F,Ext.refl _ _,h.sub ?_,?_⟩
  ·intro s k hs
   by_cases e:s=r
   ·subst e;simp [aqj] at hs
   ·rw [aqm _ _ _ e] at hs;exact hs
  ·intro off len cv hv
   cases hv with
   | ref hM' hl hc hz'=>
    rw [hM] at hM';cases hM'
    have:len=0:=by omega
    subst this
    simpa [cut] using VR.sl0
 ·rcases hz with hz | ⟨g,o,cs,ha,hFg,hg,hsz,hv⟩
  ·exact absurd hz hcap
  ·subst ha
   have hown:Owns M r (.arr es e cells top) g:=⟨o,cap,es,hM,fun _=>hcap⟩
   obtain ⟨x,hr'⟩:=h.freeze r _ hr g hown _ hg
   refine ⟨_,x,hr',?_⟩
   intro off len cv hvr
   cases hvr with
   | ref hM' hl' hc hz'=>
    rw [hM] at hM';cases hM'
    by_cases h0:len=0
    ·subst h0;simpa [cut] using VR.sl0
    rcases hz' with hz' | ⟨g',o',h1,h2⟩
    ·omega
    ·cases h1;subst h2
     have hvc:VRC (upd F g (some (.cells cs e (0,0)))) M ((cells'.drop (off*es)).take (len*es)) cs (o+off*es):=by
      intro i av' hi
      have hi':cells'[off*es+i]? =some av':=by
       rw [List.getElem?_take] at hi
       split at hi
       ·rwa [List.getElem?_drop] at hi
       ·simp at hi
      have hlt:off*es+i<cells.length:=by rw [<-hl];exact (List.getElem?_eq_some_iff.1 hi').1
      have ha:cells[off*es+i]? =some cells[off*es+i]:=by simp [hlt]
      obtain ⟨p,cv,q,r'⟩:=hv _ _ ha
      obtain ⟨o1,c1⟩:=conv _ _ _ ha hi'
      exact ⟨o1,cv,by rw [Nat.add_assoc];exact q,(c1 cv r').mono x⟩
     obtain ⟨fn,h1,h2,h3⟩:=hvc.fn
     exact VR.sl (fz:=(0,0)) fn (aqj _ _ _) hl' h1 h2 h3
theorem Rel.freezeArr {w:World} {F:Ft} {M:Mt} {H:Heap} (h:Rel w0 w F M H) {r es top:Nat} {e:TypeId} {cells:List AV} (hr:H r=some (.arr es e cells top)):
  ∃ F',Ext F F' M M/\Rel w0 w F' M (upd H r none)/\∀ off len cv,VR F M (.ref r off len top) cv->VR F' M (cut es cells off len) cv:=by
 obtain ⟨hcl,hes,a,cap,hM,hn,hmax,hz⟩:=h.blk r _ hr
 by_cases hcap:cap=0
 ·refine ⟨F,Ext.refl _ _,h.sub ?_,?_⟩
  ·intro s k hs
   by_cases e:s=r
   ·subst e;simp [aqj] at hs
   ·rw [aqm _ _ _ e] at hs;exact hs
  ·intro off len cv hv
   cases hv with
   | ref hM' hl hc hz'=>
    rw [hM] at hM';cases hM'
    have:len=0:=by omega
    subst this
    simpa [cut] using VR.sl0
 ·have hone:∀ (i:Nat) (av:AV),cells[i]? =some av->av.one=true:=by
   rcases hz with hz | ⟨g,o,cs,ha,hFg,hg,hsz,hv⟩
   ·exact absurd hz hcap
   ·exact fun i av hi=>(hv i av hi).1
  exact h.freezeAs hr rfl fun i av av' h1 h2=>by rw [h1] at h2;cases h2;exact ⟨hone i av h1,fun _ h=>h⟩
theorem eqx {c:Code} {Q:Exit->Env->Heap->Prop} {env:Env} {H:Heap} (s:Nat) {r off len top es:Nat} {e:TypeId} {cells:List AV} (hs:env s= .ref r off len top)
  (hr:H r=some (.arr es e cells top)) (h:AWP P w0 nt c Q (upd env s (cut es cells off len)) (upd H r none)):AWP P w0 nt c Q env H:=by
 intro w F M a rel er
 obtain ⟨F',x,rel',hv⟩:=rel.freezeArr hr
 have er':EnvR F' M nt (upd env s (cut es cells off len)) a:=by
  have:=er.mono x
  refine ⟨this.size,this.defers,fun i=> ?_⟩
  by_cases hi:i=s
  ·subst hi
   rw [aqj]
   have:=er.slot i
   rw [hs] at this
   exact hv _ _ _ this
  ·rw [aqm _ _ _ hi];exact this.slot i
 exact Code.wp_mono (fun _ _ _ p=>p.mono x fun _ _ _ q=>q) (h w F' M a rel' er')
theorem iqf {c:Code} {Q:Exit->Env->Heap->Prop} {env:Env} {H:Heap} (s:Nat) {r:Nat} {kv:List (Int×Int)} (hs:env s= .mp r)
  (hr:H r=some (.mapI kv)) (h:AWP P w0 nt c Q (upd env s (.fmp kv)) (upd H r none)):AWP P w0 nt c Q env H:=by
 intro w F M a rel er
 obtain ⟨F',x,rel',hv⟩:=rel.freezeMap hr
 have er':EnvR F' M nt (upd env s (.fmp kv)) a:=by
  have:=er.mono x
  refine ⟨this.size,this.defers,fun i=> ?_⟩
  by_cases hi:i=s
  ·subst hi
   rw [aqj]
   have:=er.slot i
   rw [hs] at this
   exact hv _ this
  ·rw [aqm _ _ _ hi];exact this.slot i
 exact Code.wp_mono (fun _ _ _ p=>p.mono x fun _ _ _ q=>q) (h w F' M a rel' er')
theorem aqo.freeze {f:FuncId} {args:List AV} {H:Heap} {K:AV->Heap->Prop}
  (h:aqo P w0 f args H (fun v H'=>K v H'\/∃ r off len top es e cells,v= .ref r off len top/\H' r=some (.arr es e cells top)/\K (cut es cells off len) (upd H' r none))):aqo P w0 f args H K:=by
 refine ⟨h.1,fun w F M cargs hr hv=>(h.2 w F M cargs hr hv).mono ?_⟩
 rintro e w' ⟨v,cv,H',F',M',a,b,c,d,k⟩
 rcases k with k | ⟨r,off,len,top,es,e',cells,rfl,hb,k⟩
 ·exact ⟨v,cv,H',F',M',a,b,c,d,k⟩
 ·obtain ⟨F2,x,rel',hv'⟩:=c.freezeArr hb
  exact ⟨_,cv,_,F2,M',a,b.trans x,rel',hv' _ _ _ d,k⟩
def Ret (P:Program) (w0:World) (f:FuncId) (args:List AV) (x:AV):Prop:=∀ H,aqo P w0 f args H (fun v H'=>v=x/\Sub H H')
theorem Ret.use {f:FuncId} {args:List AV} {x:AV} (h:Ret P w0 f args x) {H:Heap} {K:AV->Heap->Prop} (k:K x H):aqo P w0 f args H K:=by
 refine (h H).drop ?_
 rintro v H' ⟨rfl,s⟩
 exact ⟨H,s,k⟩
theorem aqp {f f':FuncId} {args args':List AV} {H:Heap} {K:AV->Heap->Prop} (hf:f=f') (h:args=args'):aqo P w0 f args H K=aqo P w0 f' args' H K:=by rw [hf,h]
theorem aqg.refl' (H:Heap):aqg H H=True:=by simp [aqg.refl]
theorem aq7 {H:Heap} {r:Nat} (h:H r=none):Am.upd H r none=H:=by rw [<-h,hqb]
attribute [simp] aqg.refl' Sub.refl
end
end Go.Am
namespace Go.Am
open Go
set_option linter.unusedVariables false
section
variable {P:Program} {w0:World} {nt:Nat}
attribute [simp] undef Value.oneCell' dqy setL fq6 kq4 aqx lqz
theorem frz {v x:AV} {H H':Heap} {r es n:Nat} {e:TypeId} {cells:List AV} (hr:H r=none) (hv:v= .ref r 0 n n) (hH:H'=upd H r (some (.arr es e cells n))) (hx:cut es cells 0 n=x):
  (v=x/\Sub H H')\/∃ r off len top es e cells,v= .ref r off len top/\H' r=some (.arr es e cells top)/\cut es cells off len=x/\Sub H (upd H' r none):=by
 refine .inr ⟨r,0,n,n,es,e,cells,hv,by rw [hH,aqj],hx,?_⟩
 rw [hH,aqx]
 exact (Sub.refl H).upd hr _
@[simp] theorem bqw {α:Type} (f:α->AV) (l:List α):cut 1 (l.map f) 0 l.length= .sl (l.map f) l.length:=by
 simp only [cut,List.drop_zero,Nat.mul_one]
 rw [List.take_of_length_le (by simp)]
@[simp] theorem cut_all {cells:List AV} {n:Nat} (h:cells.length<=n):cut 1 cells 0 n= .sl cells n:=by
 simp only [cut,List.drop_zero,Nat.mul_one]
 rw [List.take_of_length_le h]
@[simp] theorem take_len_map {α β:Type} (f:α->β) (l:List α):List.take l.length (List.map f l)=List.map f l:=by
 rw [List.take_of_length_le (by simp)]
theorem Ret.use_eq {f:FuncId} {args args':List AV} {x:AV} (h:Ret P w0 f args x) (e:args'=args) {H:Heap} {K:AV->Heap->Prop} (k:K x H):aqo P w0 f args' H K:=by
 subst e;exact h.use k
@[simp] theorem cut_nil (es:Nat):cut es [] 0 0= .sl [] 0:=by simp [cut]
def lenA (v:AV):Nat:=(gqi v).getD 0
theorem hqo {α:Type} (A:List α) (m:Nat) (z v:α):(A++List.replicate (m+1) z).set A.length v=(A++[v])++List.replicate m z:=by
 rw [List.set_append_right _ _ (Nat.le_refl _)]
 simp [List.replicate_succ]
theorem cq4 {f:FuncId} {args:List AV} {x:AV} {H:Heap} (h:aqo P w0 f args H (fun v H'=>(v=x/\Sub H H')\/∃ r off len top es e cells,v= .ref r off len top/\H' r=some (.arr es e cells top)/\cut es cells off len=x/\Sub H (upd H' r none))):
  aqo P w0 f args H (fun v H'=>v=x/\Sub H H'):=h.freeze
theorem acalls_frzG {f:FuncId} {pre post:List AV} {H:Heap} {K:AV->Heap->Prop} {r off len top es:Nat} {e:TypeId} {cells:List AV} (hH:H r=some (.arr es e cells top))
  (h:aqo P w0 f (pre++cut es cells off len::post) (upd H r none) K):aqo P w0 f (pre ++ .ref r off len top::post) H K:=by
 refine ⟨h.1,fun w F M cargs hr hv=> ?_⟩
 obtain ⟨F2,x,rel',hv'⟩:=hr.freezeArr hH
 refine (h.2 w F2 M cargs rel' ?_).mono ?_
 ·refine ⟨by simpa using hv.1,fun i av cv a b=> ?_⟩
  rw [List.getElem?_append] at a
  by_cases hi:i<pre.length
  ·rw [if_pos hi] at a
   exact (hv.2 i av cv (by rw [List.getElem?_append_left hi];exact a) b).mono x
  ·rw [if_neg hi] at a
   cases hk:i-pre.length with
   | zero=>
    rw [hk] at a
    simp at a
    subst a
    exact hv' _ _ _ (hv.2 i _ cv (by rw [List.getElem?_append_right (by omega),hk];rfl) b)
   | succ k=>
    rw [hk] at a
    simp at a
    exact (hv.2 i av cv (by rw [List.getElem?_append_right (by omega),hk];simpa using a) b).mono x
 ·rintro e' w' ⟨v,cv,H',F',M',a,b,c,d,k⟩
  exact ⟨v,cv,H',F',M',a,x.trans b,c,d,k⟩
theorem kq0 {f:FuncId} {post:List AV} {H:Heap} {K:AV->Heap->Prop} {r off len top es:Nat} {e:TypeId} {cells:List AV}
  (h:aqo P w0 f (cut es cells off len::post) (upd H r none) K):aqo P w0 f (.ref r off len top::post) (upd H r (some (.arr es e cells top))) K:=
 acalls_frzG (pre:=[]) (aqj _ _ _) (by rw [aqx];exact h)
theorem dqk {c:Code} {Q:Exit->Env->Heap->Prop} {env:Env} {H:Heap} (s:Nat) {r n es:Nat} {e:TypeId} {cells:List AV} (hs:env s= .ref r 0 n n) (hr:H r=none)
  (h:∀ env',env' s=cut es cells 0 n->(∀ i,i≠s->env' i=env i)->AWP P w0 nt c Q env' H):AWP P w0 nt c Q env (upd H r (some (.arr es e cells n))):=by
 refine eqx s hs (aqj _ _ _) ?_
 rw [aqx,aq7 hr]
 exact h _ (aqj _ _ _) fun i hi=>aqm _ _ _ hi
theorem fqe {c:Code} {Q:Exit->Env->Heap->Prop} {env:Env} {H:Heap} (J J0:Env->Heap->Prop) (μ:Env->Heap->Nat) (h0:J0 env H)
  (prep:∀ env H,J0 env H->∀ Q',(∀ env' H',J env' H'->μ env' H'=μ env H->AWP P w0 nt c Q' env' H')->AWP P w0 nt c Q' env H)
  (round:∀ env H,J env H->AWP P w0 nt c (Then (fun env' H'=>J0 env' H'/\μ env' H'<μ env H) Q) env H):AWP P w0 nt (.loop c) Q env H:=by
 refine aqi J0 μ h0 fun env H j=>prep env H j _ fun env' H' j' e=> ?_
 rw [<-e]
 exact round env' H' j'
def listIn (H:Heap) (s:Nat) (x:List Int) (env:Env) (h:Heap):Prop:=
 (env s=ints x/\h=H)\/∃ r,H r=none/\env s= .ref r 0 x.length x.length/\h=upd H r (some (.arr 1 3 (x.map I) x.length))
theorem listIn.prep {H:Heap} {s:Nat} {x:List Int} {env:Env} {h:Heap} (j:listIn H s x env h) {c:Code} {Q:Exit->Env->Heap->Prop}
  (k:∀ env',env' s=ints x->(∀ i,i≠s->env' i=env i)->AWP P w0 nt c Q env' H):AWP P w0 nt c Q env h:=by
 rcases j with ⟨h1,rfl⟩ | ⟨r,hr,h1,rfl⟩
 ·exact k env h1 fun _ _=>rfl
 ·refine dqk s h1 hr fun env' he he'=>k env' ?_ he'
  rw [he,bqw]
theorem imax (a b:Nat):max (a:Int) (b:Int)=((max a b:Nat):Int):=by omega
theorem imin (a b:Nat):min (a:Int) (b:Int)=((min a b:Nat):Int):=by omega
theorem post_normal {ts:List Tmp} {K:AV->Heap->Prop} {env:Env} {H:Heap} (h:K (resA ts env) H):eqn ts K .normal env H:=h
theorem aqo.sub {f:FuncId} {args:List AV} {H H':Heap} {K:AV->Heap->Prop} (s:Sub H' H) (h:aqo P w0 f args H' K):aqo P w0 f args H K:=
 ⟨h.1,fun w F M cargs hr hv=>h.2 w F M cargs (hr.sub s) hv⟩
theorem aqh {H:Heap} {r:Nat} {k:Option Blk} (h:H r=none):Sub H (upd H r k):=(Sub.refl H).upd h k
@[simp] theorem zrep2_0 (a b:Value):zrep [a,b] 0=[]:=rfl
@[simp] theorem zrep2_2 (a b:Value):zrep [a,b] 2=[.sc a,.sc b]:=rfl
@[simp] theorem zrep2_4 (a b:Value):zrep [a,b] 4=[.sc a,.sc b,.sc a,.sc b]:=by simp [zrep,List.range,List.range.loop]
theorem aql (id:Nat) {l:Array Oper} {d:Bool} {y:Code} {Q:Exit->Env->Heap->Prop} {env:Env} {H:Heap} (h:AWP P w0 nt (.seq (.region id l d) y) Q env H):AWP P w0 nt (.seq (.region id l d) y) Q env H:=h
theorem cut_pairs (es:List (Int×Int)) {n:Nat} (hn:n=es.length):cut 2 (es.flatMap fun e=>[I e.1,I e.2]) 0 n=bqy es:=by
 subst hn
 have:(es.flatMap fun e=>[I e.1,I e.2]).length=es.length*2:=by
  induction es with
  | nil=>rfl
  | cons e es ih=>simp [ih,Nat.succ_mul]
 simp only [cut,Nat.zero_mul,List.drop_zero,bqy]
 rw [List.take_of_length_le (by omega)]
theorem then_any {n:Env->Heap->Prop} {Q:Exit->Env->Heap->Prop} {env:Env} {H:Heap} (h:n env H):Then n Q .normal env H:=h
theorem nqv (J:Env->Heap->Prop) {x y:Code} {Q:Exit->Env->Heap->Prop} {env:Env} {H:Heap} (h1:AWP P w0 nt x (Then J Q) env H) (h2:∀ e h,J e h->AWP P w0 nt y Q e h):AWP P w0 nt (.seq x y) Q env H:=
 iqy (h1.mono fun e env H q=>by
  cases e with
  | normal=>exact h2 _ _ q
  | _=>exact q)
theorem v_reg (own:List Nat) {id:Nat} {l:List Oper} {y:Code} {Q:Exit->Env->Heap->Prop} {env:Env} {H:Heap}
  (h:∀ K:Env->Heap->Prop,(∀ e h,AWP P w0 nt y Q e h->K e h)->bqv P w0 nt own l.toArray l env H K):AWP P w0 nt (.seq (.region id l.toArray false) y) Q env H:=
 w_reg own fun K hK=>h K hK
theorem v_reg1 (own:List Nat) {id:Nat} {l:List Oper} {Q:Exit->Env->Heap->Prop} {env:Env} {H:Heap}
  (h:∀ K:Env->Heap->Prop,(∀ e h,Q .normal e h->K e h)->bqv P w0 nt own l.toArray l env H K):AWP P w0 nt (.region id l.toArray false) Q env H:=
 w_reg1 own fun K hK=>h K hK
theorem v_draw (hm:P.follows .mixedOrders=true) (own st:List Nat) {id:Nat} {l:List Oper} {y:Code} {Q:Exit->Env->Heap->Prop} {env:Env} {H:Heap} (hok:fqh own st nt l.toArray (List.range l.toArray.size)=true)
  (h:∀ K:Env->Heap->Prop,(∀ e h,AWP P w0 nt y Q e h->K e h)->dq4 P w0 nt own st l.toArray l env H K):AWP P w0 nt (.seq (.region id l.toArray true) y) Q env H:=
 w_draw hm own st hok fun K hK=>h K hK
theorem v_draw1 (hm:P.follows .mixedOrders=true) (own st:List Nat) {id:Nat} {l:List Oper} {Q:Exit->Env->Heap->Prop} {env:Env} {H:Heap} (hok:fqh own st nt l.toArray (List.range l.toArray.size)=true)
  (h:∀ K:Env->Heap->Prop,(∀ e h,Q .normal e h->K e h)->dq4 P w0 nt own st l.toArray l env H K):AWP P w0 nt (.region id l.toArray true) Q env H:=
 w_draw1 hm own st hok fun K hK=>h K hK
section
variable {own st:List Nat} {ops:Array Oper} {rest:List Oper} {dst:Option Tmp} {op:Op} {t:TypeId} {pos:String} {after:Array Edge} {env:Env} {H:Heap} {K:Env->Heap->Prop}
theorem aqd (h:K env H):bqv P w0 nt own ops [] env H K:=h
theorem aqa (h : ∀ K' : Env → Heap → Prop, (∀ e h, bqv P w0 nt own ops rest e h K → K' e h) → fqi P w0 nt own ⟨dst, op, t, "", #[], none⟩ env H K') :
  bqv P w0 nt own ops (⟨dst,op,t,pos,after,none⟩::rest) env H K:=h _ fun _ _ h=>h
theorem aqk {l:List Oper} (h:bqv P w0 nt own ops l env H K):bqv P w0 nt own ops l env H K:=h
theorem aqe {j d:Nat} {want:Bool} {l:List Oper} (hd:(l[j]?).bind (·.dst)=some d) (h:∀ K':Env->Heap->Prop,(∀ e h,bqv P w0 nt own l.toArray rest e h K->K' e h)->
   gqr (some (some d, want)) env (fun env => fqi P w0 nt own ⟨dst, op, t, "", #[], none⟩ env H K') (fun env => putK nt dst (.sc undef) env (fun env => K' env H))) :
  bqv P w0 nt own l.toArray (⟨dst,op,t,pos,after,some (j,want)⟩::rest) env H K:=by
 have:=h _ fun _ _ h=>h
 unfold bqv stepA cq0
 simp only [List.getElem?_toArray,hd]
 exact this
theorem ed_nil (h:K env H):dq4 P w0 nt own st ops [] env H K:=h
theorem aqn (h : ∀ K' : Env → Heap → Prop, (∀ e h, dq4 P w0 nt own st ops rest e h K → K' e h) → cqr P w0 nt own st ⟨dst, op, t, "", #[], none⟩ env H K') :
  dq4 P w0 nt own st ops (⟨dst,op,t,pos,after,none⟩::rest) env H K:=h _ fun _ _ h=>h
theorem bq8 {l:List Oper} (h:dq4 P w0 nt own st ops l env H K):dq4 P w0 nt own st ops l env H K:=h
theorem aqt {j d:Nat} {want:Bool} {l:List Oper} (hd:(l[j]?).bind (·.dst)=some d) (h:∀ K':Env->Heap->Prop,(∀ e h,dq4 P w0 nt own st l.toArray rest e h K->K' e h)->
   gqr (some (some d, want)) env (fun env => cqr P w0 nt own st ⟨dst, op, t, "", #[], none⟩ env H K') (fun env => putK nt dst (.sc undef) env (fun env => K' env H))) :
  dq4 P w0 nt own st l.toArray (⟨dst,op,t,pos,after,some (j,want)⟩::rest) env H K:=by
 have:=h _ fun _ _ h=>h
 unfold dq4 cqy cq0
 simp only [List.getElem?_toArray,hd]
 exact this
/-- One step of a walk. -/
class Stp (G:Prop) (G':outParam Prop):Prop where
 h:G'->G
theorem sp {G G':Prop} [s:Stp G G'] (h:G'):G:=s.h h
section
variable {Q:Exit->Env->Heap->Prop} {n:Env->Heap->Prop} {id i:Nat} {c:Code} {ts:List Tmp} {R:AV->Heap->Prop}
instance:Stp (AWP P w0 nt .skip Q env H) (Q .normal env H):=⟨awp_skip⟩
instance:Stp (Then n Q .normal env H) (n env H):=⟨then_any⟩
instance:Stp (Then n Q .ret env H) (Q .ret env H):=⟨then_ret⟩
instance:Stp (Then n Q (.exit i) env H) (Q (.exit i) env H):=⟨then_exit⟩
instance:Stp (eqo id Q .normal env H) (Q .normal env H):=⟨lqa⟩
instance:Stp (eqo id Q .ret env H) (Q .ret env H):=⟨inBlock_ret⟩
instance:Stp (eqo id Q (.exit id) env H) (Q .normal env H):=⟨inBlock_hit⟩
instance:Stp (AWP P w0 nt (.exit i) Q env H) (Q (.exit i) env H):=⟨awp_exit⟩
instance:Stp (eqn ts R .ret env H) (R (resA ts env) H):=⟨post_ret⟩
instance:Stp (eqn ts R .normal env H) (R (resA ts env) H):=⟨post_normal⟩
instance:Stp (AWP P w0 nt (.block id c) Q env H) (AWP P w0 nt c (eqo id Q) env H):=⟨awp_block⟩
instance {x y:Code}:Stp (AWP P w0 nt (.seq x y) Q env H) (AWP P w0 nt x (Then (AWP P w0 nt y Q) Q) env H):=⟨iqy⟩
instance:Stp (AWP P w0 nt (.label i) Q env H) (Q .normal env H):=⟨awp_label⟩
instance:Stp (bqv P w0 nt own ops [] env H K) (K env H):=⟨aqd⟩
instance:Stp (dq4 P w0 nt own st ops [] env H K) (K env H):=⟨ed_nil⟩
end
/-- A region,an operation. -/
class Rg (own:List Nat) (G:Prop) (C E:outParam ((Env->Heap->Prop)->Prop)):Prop where
 h:(∀ K,C K->E K)->G
theorem vr (own:List Nat) {G:Prop} {C E:(Env->Heap->Prop)->Prop} [r:Rg own G C E] (h:∀ K,C K->E K):G:=r.h h
class Ec (G:Prop) (C E:outParam ((Env->Heap->Prop)->Prop)):Prop where
 h:(∀ K,C K->E K)->G
instance {id:Nat} {l:List Oper} {y:Code} {Q:Exit->Env->Heap->Prop}:Rg own (AWP P w0 nt (.seq (.region id l.toArray false) y) Q env H) (fun K=>∀ e h,AWP P w0 nt y Q e h->K e h) (fun K=>bqv P w0 nt own l.toArray l env H K):=⟨fun h=>v_reg own h⟩
instance {id:Nat} {l:List Oper} {Q:Exit->Env->Heap->Prop}:Rg own (AWP P w0 nt (.region id l.toArray false) Q env H) (fun K=>∀ e h,Q .normal e h->K e h) (fun K=>bqv P w0 nt own l.toArray l env H K):=⟨fun h=>v_reg1 own h⟩
/-- A region that draws its order. -/
class Dr (own st:List Nat) (G:Prop) (M O:outParam Prop) (C E:outParam ((Env->Heap->Prop)->Prop)):Prop where
 h:M->O->(∀ K,C K->E K)->G
theorem vd (own st:List Nat) {G M O:Prop} {C E:(Env->Heap->Prop)->Prop} [r:Dr own st G M O C E] (m:M) (h:∀ K,C K->E K) (o:O:=by kernel_rfl):G:=r.h m o h
instance {id:Nat} {l:List Oper} {y:Code} {Q:Exit->Env->Heap->Prop}:Dr own st (AWP P w0 nt (.seq (.region id l.toArray true) y) Q env H) (P.follows .mixedOrders=true) (fqh own st nt l.toArray (List.range l.toArray.size)=true) (fun K=>∀ e h,AWP P w0 nt y Q e h->K e h) (fun K=>dq4 P w0 nt own st l.toArray l env H K):=⟨fun m o h=>v_draw m own st o h⟩
instance {id:Nat} {l:List Oper} {Q:Exit->Env->Heap->Prop}:Dr own st (AWP P w0 nt (.region id l.toArray true) Q env H) (P.follows .mixedOrders=true) (fqh own st nt l.toArray (List.range l.toArray.size)=true) (fun K=>∀ e h,Q .normal e h->K e h) (fun K=>dq4 P w0 nt own st l.toArray l env H K):=⟨fun m o h=>v_draw1 m own st o h⟩
instance : Ec (bqv P w0 nt own ops (⟨dst, op, t, pos, after, none⟩ :: rest) env H K) (fun K' => ∀ e h, bqv P w0 nt own ops rest e h K → K' e h) (fun K' => fqi P w0 nt own ⟨dst, op, t, "", #[], none⟩ env H K') := ⟨aqa⟩
instance : Ec (dq4 P w0 nt own st ops (⟨dst, op, t, pos, after, none⟩ :: rest) env H K) (fun K' => ∀ e h, dq4 P w0 nt own st ops rest e h K → K' e h) (fun K' => cqr P w0 nt own st ⟨dst, op, t, "", #[], none⟩ env H K') := ⟨aqn⟩
end
end
end Go.Am
namespace Go.Am
open Go
set_option linter.unusedVariables false
set_option linter.unusedSimpArgs false
section
variable {P:Program} {w0:World} {nt:Nat}
structure Rows (e:TypeId) (H h:Heap) (O:Nat) (parts:List (List Int)) (cells:List AV):Prop where
 len:cells.length=parts.length
 out:h O=some (.arr 1 e cells parts.length)
 row:∀ (i:Nat) (p:List Int),parts[i]? =some p->(p=[]/\cells[i]? =some (.sc (.slice none 0 0)))\/
  ∃ r,cells[i]? =some (.ref r 0 p.length p.length)/\h r=some (.arr 1 3 (p.map I) p.length)/\H r=none/\r≠O
 dis:∀ (i j r n m n' m':Nat),cells[i]? =some (.ref r 0 n m)->cells[j]? =some (.ref r 0 n' m')->i=j
 sub:Sub H h
 new:H O=none
theorem ints_nil {F:Ft} {M:Mt} {cv:Value} (h:VR F M (.sc (.slice none 0 0)) cv):VR F M (ints []) cv:=by
 have:=h.sc_inv
 subst this
 exact .sl0
theorem VR.anyF {F F':Ft} {M:Mt} {av:AV} {cv:Value} (h:VR F M av cv) (ha:(∃ v,av= .sc v)\/∃ r off len top,av= .ref r off len top):VR F' M av cv:=by
 rcases ha with ⟨v,rfl⟩ | ⟨r,off,len,top,rfl⟩
 ·have:=h.sc_inv;subst this;exact .sc _
 ·cases h with
  | ref hM hl hc hz=>exact .ref hM hl hc hz
theorem Rows.flat {e:TypeId} {H h:Heap} {O:Nat} {parts:List (List Int)} {cells:List AV} (R:Rows e H h O parts cells) {i:Nat} {av:AV} (hi:cells[i]? =some av):(∃ v,av= .sc v)\/∃ r off len top,av= .ref r off len top:=by
 have hlt:i<parts.length:=by rw [<-R.len];exact (List.getElem?_eq_some_iff.1 hi).1
 rcases R.row i parts[i] (by simp [hlt]) with ⟨_,hc⟩ | ⟨r,hc,_⟩
 ·rw [hc] at hi;cases hi;exact .inl ⟨_,rfl⟩
 ·rw [hc] at hi;cases hi;exact .inr ⟨_,_,_,_,rfl⟩
theorem Rows.freeze {e:TypeId} {H h:Heap} {O:Nat} {parts:List (List Int)} {cells:List AV} (R:Rows e H h O parts cells) {w:World} {F:Ft} {M:Mt} (rel:Rel w0 w F M h):
  ∃ F',Ext F F' M M/\Rel w0 w F' M H/\∀ cv,VR F M (.ref O 0 parts.length parts.length) cv->VR F' M (rows parts) cv:=by
 have key:∀ k,k<=parts.length->∃ Fk hk,Ext F Fk M M/\Rel w0 w Fk M hk/\(∀ b,hk b=h b\/(∃ i n m,i<k/\cells[i]? =some (.ref b 0 n m)/\hk b=none))/\
   ∀ (i:Nat) (av:AV) (p:List Int),i<k->cells[i]? =some av->parts[i]? =some p->∀ cv,VR Fk M av cv->VR Fk M (ints p) cv:=by
  intro k
  induction k with
  | zero=>exact fun _=>⟨F,h,Ext.refl _ _,rel,fun b=> .inl rfl,fun i av p hi=>absurd hi (by omega)⟩
  | succ k ih=>
   intro hk
   obtain ⟨Fk,hk',x,relk,hb,hv⟩:=ih (by omega)
   have hpk:parts[k]? =some parts[k]:=by simp [show k<parts.length by omega]
   rcases R.row k _ hpk with ⟨h0,hc⟩ | ⟨r,hc,hr,hHr,hrO⟩
   ·refine ⟨Fk,hk',x,relk,fun b=> ?_,?_⟩
    ·rcases hb b with h | ⟨i,n,m,hi,a⟩
     ·exact .inl h
     ·exact .inr ⟨i,n,m,by omega,a⟩
    ·intro i av p hi ha hp cv hcv
     by_cases e:i=k
     ·subst e
      rw [hc] at ha;cases ha
      rw [hpk] at hp;cases hp
      rw [h0]
      exact ints_nil hcv
     ·exact hv i av p (by omega) ha hp cv hcv
   ·have hkr:hk' r=some (.arr 1 3 (parts[k].map I) parts[k].length):=by
     rcases hb r with h | ⟨i,n,m,hi,a,_⟩
     ·rw [h];exact hr
     ·exact absurd (R.dis i k r _ _ _ _ a hc) (by omega)
    obtain ⟨F2,x2,rel2,hv2⟩:=relk.freezeArr hkr
    refine ⟨F2,upd hk' r none,x.trans x2,rel2,fun b=> ?_,?_⟩
    ·by_cases e:b=r
     ·subst e
      exact .inr ⟨k,_,_,by omega,hc,aqj _ _ _⟩
     ·rw [aqm _ _ _ e]
      rcases hb b with h | ⟨i,n,m,hi,a⟩
      ·exact .inl h
      ·exact .inr ⟨i,n,m,by omega,a⟩
    ·intro i av p hi ha hp cv hcv
     by_cases e:i=k
     ·subst e
      rw [hc] at ha;cases ha
      rw [hpk] at hp;cases hp
      have:=hv2 _ _ _ (hcv.anyF (R.flat hc))
      rwa [bqw] at this
     ·exact (hv i av p (by omega) ha hp cv (hcv.anyF (R.flat ha))).mono x2
 obtain ⟨Fk,hk,x,relk,hb,hv⟩:=key parts.length (Nat.le_refl _)
 have hO:hk O=some (.arr 1 e cells parts.length):=by
  rcases hb O with h | ⟨i,n,m,hi,a,_⟩
  ·rw [h];exact R.out
  ·exfalso
   have hp:parts[i]? =some parts[i]:=by simp [hi]
   rcases R.row i _ hp with ⟨_,hc⟩ | ⟨r,hc,_,_,hrO⟩
   ·rw [hc] at a;cases a
   ·rw [hc] at a;cases a;exact hrO rfl
 obtain ⟨hcl,hes,a,cap,hM,hn,hmax,hz⟩:=relk.blk O _ hO
 have fin:∀ F',Ext Fk F' M M->Rel w0 w F' M (upd hk O none)->Rel w0 w F' M H:=by
  intro F' x' rel'
  refine rel'.sub fun r k hr=> ?_
  have hrO:r≠O:=fun e=>by subst e;rw [R.new] at hr;cases hr
  rw [aqm _ _ _ hrO]
  rcases hb r with h | ⟨i,n,m,hi,a,_⟩
  ·rw [h];exact R.sub r k hr
  ·exfalso
   have hp:parts[i]? =some parts[i]:=by simp [hi]
   rcases R.row i _ hp with ⟨_,hc⟩ | ⟨r',hc,_,hn,_⟩
   ·rw [hc] at a;cases a
   ·rw [hc] at a;cases a;rw [hn] at hr;cases hr
 have hmapl:(parts.map ints).length=cells.length:=by rw [List.length_map,R.len]
 obtain ⟨F',x',rel',hv'⟩:=relk.freezeAs (cells':=parts.map ints) hO hmapl fun i av av' h1 h2=>by
  rw [List.getElem?_map] at h2
  cases hp:parts[i]? with
  | none=>rw [hp] at h2;cases h2
  | some p=>
   rw [hp] at h2;cases h2
   exact ⟨rfl,hv i av p (List.getElem?_eq_some_iff.1 hp).1 h1 hp⟩
 refine ⟨F',x.trans x',fin F' x' rel',fun cv hcv=> ?_⟩
 have:=hv' _ _ _ (hcv.anyF (F':=Fk) (.inr ⟨_,_,_,_,rfl⟩))
 rwa [bqw] at this
theorem awp_rows {c:Code} {Q:Exit->Env->Heap->Prop} {env:Env} {e:TypeId} {H h:Heap} {O:Nat} {parts:List (List Int)} {cells:List AV} (s:Nat) (R:Rows e H h O parts cells)
  (hs:env s= .ref O 0 parts.length parts.length) (k:∀ env',env' s=rows parts->(∀ i,i≠s->env' i=env i)->AWP P w0 nt c Q env' H):AWP P w0 nt c Q env h:=by
 intro w F M a rel er
 obtain ⟨F',x,rel',hv⟩:=R.freeze rel
 have er':EnvR F' M nt (upd env s (rows parts)) a:=by
  have:=er.mono x
  refine ⟨this.size,this.defers,fun i=> ?_⟩
  by_cases hi:i=s
  ·subst hi
   rw [aqj]
   have:=er.slot i
   rw [hs] at this
   exact hv _ this
  ·rw [aqm _ _ _ hi];exact this.slot i
 exact Code.wp_mono (fun _ _ _ p=>p.mono x fun _ _ _ q=>q) (k _ (aqj _ _ _) (fun i hi=>aqm _ _ _ hi) w F' M a rel' er')
theorem Rows.push {e:TypeId} {H h:Heap} {O i r:Nat} {parts:List (List Int)} {cells:List AV} {p:List Int} {v:Int} (R:Rows e H h O parts cells) (hp:parts[i]? =some p)
  (hr:(p=[]/\h r=none)\/cells[i]? =some (.ref r 0 p.length p.length)):
  Rows e H (upd (upd h r (some (.arr 1 3 (p.map I++[I v]) (p.length+1)))) O (some (.arr 1 e (cells.set i (.ref r 0 (p.length+1) (p.length+1))) parts.length))) O (parts.set i (p++[v])) (cells.set i (.ref r 0 (p.length+1) (p.length+1))):=by
 have hl:=R.len
 have hi:i<parts.length:=(List.getElem?_eq_some_iff.1 hp).1
 have hic:i<cells.length:=by omega
 have hrO:r≠O:=by
  rcases hr with ⟨_,hn⟩ | hc
  ·intro e;subst e;rw [R.out] at hn;cases hn
  ·rcases R.row i p hp with ⟨_,hc'⟩ | ⟨r',hc',_,_,hne⟩
   ·rw [hc] at hc';cases hc'
   ·rw [hc] at hc';cases hc';exact hne
 have hrH:H r=none:=by
  rcases hr with ⟨_,hn⟩ | hc
  ·cases e:H r with
   | none=>rfl
   | some k=>rw [R.sub r k e] at hn;cases hn
  ·rcases R.row i p hp with ⟨_,hc'⟩ | ⟨r',hc',_,hn,_⟩
   ·rw [hc] at hc';cases hc'
   ·rw [hc] at hc';cases hc';exact hn
 have hoth:∀ j n m,j≠i->cells[j]? ≠some (.ref r 0 n m):=by
  intro j n m hj hc
  rcases hr with ⟨_,hn⟩ | hc'
  ·have hjl:j<parts.length:=by rw [<-hl];exact (List.getElem?_eq_some_iff.1 hc).1
   rcases R.row j parts[j] (by simp [hjl]) with ⟨_,h2⟩ | ⟨r',h2,h3,_,_⟩
   ·rw [hc] at h2;cases h2
   ·rw [hc] at h2;cases h2;rw [hn] at h3;cases h3
  ·exact hj (R.dis j i r _ _ _ _ hc hc')
 refine ⟨by simp [hl],by rw [aqj,List.length_set],fun j q hq=> ?_,fun j k s n m n' m' hj hk=> ?_,fun s k hs=> ?_,R.new⟩
 ·rw [List.getElem?_set] at hq ⊢
  by_cases e:i=j
  ·subst e
   rw [if_pos rfl,if_pos hi] at hq
   cases hq
   right
   refine ⟨r,by simp [hic],?_,hrH,hrO⟩
   rw [aqm _ _ _ hrO,aqj]
   simp
  ·rw [if_neg e] at hq
   rw [if_neg e]
   rcases R.row j q hq with h | ⟨s,hc,hs,hn,hne⟩
   ·exact .inl h
   ·have hsr:s≠r:=fun e'=>by subst e';exact hoth j _ _ (fun e2=>e e2.symm) hc
    exact .inr ⟨s,hc,by rw [aqm _ _ _ hne,aqm _ _ _ hsr];exact hs,hn,hne⟩
 ·rw [List.getElem?_set] at hj hk
  by_cases e1:i=j
  ·subst e1
   rw [if_pos rfl,if_pos hic] at hj
   cases hj
   by_cases e2:i=k
   ·exact e2
   ·rw [if_neg e2] at hk;exact absurd hk (hoth k _ _ (fun e=>e2 e.symm))
  ·rw [if_neg e1] at hj
   by_cases e2:i=k
   ·subst e2
    rw [if_pos rfl,if_pos hic] at hk
    cases hk
    exact absurd hj (hoth j _ _ (fun e=>e1 e.symm))
   ·rw [if_neg e2] at hk
    exact R.dis j k s _ _ _ _ hj hk
 ·have h1:s≠O:=fun e=>by subst e;rw [R.new] at hs;cases hs
  have h2:s≠r:=fun e=>by subst e;rw [hrH] at hs;cases hs
  rw [aqm _ _ _ h1,aqm _ _ _ h2];exact R.sub s k hs
theorem Rows.other {e:TypeId} {H h:Heap} {O m:Nat} {parts:List (List Int)} {cells:List AV} {k':Option Blk} (R:Rows e H h O parts cells) (hm:∀ es e c n,h m≠some (.arr es e c n)) (hH:H m=Option.none):
  Rows e H (upd h m k') O parts cells:=by
 have hO:O≠m:=fun e=>by subst e;exact hm _ _ _ _ R.out
 refine ⟨R.len,by rw [aqm _ _ _ hO];exact R.out,fun i p hp=> ?_,R.dis,fun s k hs=> ?_,R.new⟩
 ·rcases R.row i p hp with h | ⟨r,hc,hr,hn,hne⟩
  ·exact .inl h
  ·have:r≠m:=fun e=>by subst e;exact hm _ _ _ _ hr
   exact .inr ⟨r,hc,by rw [aqm _ _ _ this];exact hr,hn,hne⟩
 ·have:s≠m:=fun e=>by subst e;rw [hH] at hs;cases hs
  rw [aqm _ _ _ this];exact R.sub s k hs
end
end Go.Am
namespace Go.Am
open Go
set_option linter.unusedVariables false
section
variable {P:Program} {w0:World} {nt:Nat}
theorem least_of (T:Nat->Prop) (h:∃ n,T n):∃ n,T n/\∀ m,T m->n<=m:=by
 obtain ⟨n,hn⟩:=h
 induction n using Nat.strongRecOn with
 | _ n ih=>
  by_cases hm:∃ m,m<n/\T m
  ·obtain ⟨m,hlt,hT⟩:=hm;exact ih m hlt hT
  ·exact ⟨n,hn,fun m hT=>by
    rcases Nat.lt_or_ge m n with h | h
    ·exact absurd ⟨m,h,hT⟩ hm
    ·exact h⟩
theorem iqz {c:Code} {Q:Exit->Env->Heap->Prop} {env:Env} {H:Heap} (J:Nat->Env->Heap->Prop) (h0:∃ n,J n env H)
  (round:∀ n env H,J n env H->AWP P w0 nt c (Then (fun env' H'=>∃ m,m<n/\J m env' H') Q) env H):AWP P w0 nt (.loop c) Q env H:=by
 have dec:∀ e h,Decidable (∃ n,J n e h):=fun e h=>Classical.propDecidable _
 let μ:Env->Heap->Nat:=fun e h=>if x:∃ n,J n e h then Classical.choose (least_of _ x) else 0
 have hμ:∀ e h,(x:∃ n,J n e h)->J (μ e h) e h/\∀ m,J m e h->μ e h<=m:=by
  intro e h x
  have:=Classical.choose_spec (least_of _ x)
  simp only [μ,dif_pos x]
  exact this
 refine aqi (fun e h=>∃ n,J n e h) μ h0 fun e h x=> ?_
 obtain ⟨a,b⟩:=hμ e h x
 refine AWP.mono (round _ e h a) fun ex e' h' q=> ?_
 cases ex with
 | normal=>
  obtain ⟨m,hm,j⟩:=q
  exact ⟨⟨m,j⟩,Nat.lt_of_le_of_lt ((hμ e' h' ⟨m,j⟩).2 m j) hm⟩
 | _=>exact q
def iqi (P:Program) (w0:World) (f:FuncId) (args:List AV) (es:Nat) (e:TypeId) (cells:List AV) (n:Nat):Prop:=
 ∀ H,aqo P w0 f args H (fun v H'=>∃ r,H r=none/\v= .ref r 0 n n/\Sub (upd H r (some (.arr es e cells n))) H')
theorem iqi.use {f:FuncId} {args:List AV} {es:Nat} {e:TypeId} {cells:List AV} {n:Nat} (h:iqi P w0 f args es e cells n) {H:Heap} {K:AV->Heap->Prop}
  (k:∀ r,H r=none->K (.ref r 0 n n) (upd H r (some (.arr es e cells n)))):aqo P w0 f args H K:=by
 refine (h H).drop ?_
 rintro v H' ⟨r,hr,rfl,s⟩
 exact ⟨_,s,k r hr⟩
theorem iqi.ret {f:FuncId} {args:List AV} {es:Nat} {e:TypeId} {cells:List AV} {n:Nat} {x:AV} (h:iqi P w0 f args es e cells n) (hx:cut es cells 0 n=x):Ret P w0 f args x:=by
 intro H
 refine cq4 (h.use fun r hr=> ?_)
 exact frz hr rfl rfl hx
def bqp (P:Program) (w0:World) (f:FuncId) (args:List AV) (x:AV) (H:Heap):Prop:=∀ K:AV->Heap->Prop,K x H->aqo P w0 f args H K
theorem bqp.use {f:FuncId} {args:List AV} {x:AV} {H:Heap} (h:bqp P w0 f args x H) {K:AV->Heap->Prop} (k:K x H):aqo P w0 f args H K:=h K k
theorem Ret.at {f:FuncId} {args:List AV} {x:AV} (h:Ret P w0 f args x) (H:Heap):bqp P w0 f args x H:=fun K k=>h.use k
theorem bqp.of {f:FuncId} {args:List AV} {x:AV} {H:Heap} (h:aqo P w0 f args H (fun v H'=>v=x/\Sub H H')):bqp P w0 f args x H:=fun K k=>h.drop fun v H' ⟨a,s⟩=>⟨H,s,by rw [a];exact k⟩
end
end Go.Am
namespace Go.Am
open Go
set_option linter.unusedVariables false
section
variable {P:Program} {w0:World} {nt:Nat}
def Wks (a b:AV):Prop:=∀ F M cv,VR F M a cv->VR F M b cv
theorem Wks.refl (a:AV):Wks a a:=fun _ _ _ h=>h
theorem Wks.nil:Wks (.sc (.slice none 0 0)) (.sl [] 0):=by
 intro F M cv h
 have:=h.sc_inv
 subst this
 exact .sl0
theorem Wks.sl {c c':List AV} {n:Nat} (hl:c'.length=c.length) (h:∀ (i:Nat) (a b:AV),c[i]? =some a->c'[i]? =some b->Wks a b/\b.one=true):Wks (.sl c n) (.sl c' n):=by
 intro F M cv hv
 cases hv with
 | sl f hF hn h1 h2 ho=>
  refine .sl f hF hn (fun i b hb=> ?_) (fun i b hb=> ?_) (fun i b hb=> ?_)
  ·have hi:i<c.length:=by rw [<-hl];exact (List.getElem?_eq_some_iff.1 hb).1
   exact h1 i c[i] (by simp [hi])
  ·have hi:i<c.length:=by rw [<-hl];exact (List.getElem?_eq_some_iff.1 hb).1
   exact (h i c[i] b (by simp [hi]) hb).1 _ _ _ (h2 i c[i] (by simp [hi]))
  ·have hi:i<c.length:=by rw [<-hl];exact (List.getElem?_eq_some_iff.1 hb).1
   exact (h i c[i] b (by simp [hi]) hb).2
 | sl0=>
  have:c'=[]:=List.length_eq_zero_iff.1 (by simpa using hl)
  subst this
  exact .sl0
theorem aqo.wks {f:FuncId} {args args':List AV} {H:Heap} {K:AV->Heap->Prop} (hl:args'.length=args.length) (hw:∀ (i:Nat) (a b:AV),args[i]? =some a->args'[i]? =some b->Wks a b) (h:aqo P w0 f args' H K):aqo P w0 f args H K:=by
 refine ⟨h.1,fun w F M cargs hr hv=>h.2 w F M cargs hr ⟨by rw [hl];exact hv.1,fun i b cv hb hc=> ?_⟩⟩
 have hi:i<args.length:=by rw [<-hl];exact (List.getElem?_eq_some_iff.1 hb).1
 exact hw i args[i] b (by simp [hi]) hb _ _ _ (hv.2 i args[i] cv (by simp [hi]) hc)
end
end Go.Am
namespace Go.Am
open Go
set_option linter.unusedVariables false
section
variable {P:Program} {w0:World} {nt:Nat}
theorem BlkR.grow {F:Ft} {M:Mt} {w:World} {r:Nat} (os:Array Obj):∀ {k:Blk},BlkR F M w r k->BlkR F M (Sort.grow w os) r k:=by
 have hh:∀ (g:Nat) (o:Obj),w.heap[g]? =some o->(Sort.grow w os).heap[g]? =some o:=by
  intro g o h
  have hl:=(Array.getElem?_eq_some_iff.1 h).1
  show (w.heap++os)[g]? =some o
  rw [Array.getElem?_append_left hl];exact h
 intro k h
 cases k with
 | arr es e cells n=>
  obtain ⟨h1,h2,a,cap,h3,h4,h5,h6⟩:=h
  refine ⟨h1,h2,a,cap,h3,h4,h5,?_⟩
  rcases h6 with h6 | ⟨g,o,cs,a1,a2,a3,a4⟩
  ·exact .inl h6
  ·exact .inr ⟨g,o,cs,a1,a2,hh _ _ a3,a4⟩
 | box cells=>
  obtain ⟨g,cs,e,a1,a2,a3,a4⟩:=h
  exact ⟨g,cs,e,a1,a2,hh _ _ a3,a4⟩
 | mapI kv=>
  obtain ⟨g,es,c,a1,a2,a3,a4⟩:=h
  exact ⟨g,es,c,a1,a2,hh _ _ a3,a4⟩
 | iter kv left cur=>
  obtain ⟨g,gm,es,c,seen,a1,a2,a3,a4⟩:=h
  exact ⟨g,gm,es,c,seen,a1,a2,hh _ _ a3,a4⟩
theorem Rel.grow {w:World} {F:Ft} {M:Mt} {H:Heap} (h:Rel w0 w F M H) (os:Array Obj):Rel w0 (Sort.grow w os) F M H:=by
 refine ⟨h.os,h.tape,h.output,h.F0,fun b o hb=> ?_,fun r k hr=>(h.blk r k hr).grow os,h.disj,h.gens,h.fresh⟩
 have:=h.hF b o hb
 have hl:=(Array.getElem?_eq_some_iff.1 this).1
 show (w.heap++os)[b]? =some o
 rw [Array.getElem?_append_left hl];exact this
theorem Rel.ahead {w:World} {F:Ft} {M:Mt} {H:Heap} (h:Rel w0 w F M H) (n:Nat):Rel w0 (Sort.ahead w n) F M H:=
 ⟨h.os,h.tape,h.output,h.F0,h.hF,fun r k x=>by
  have:=h.blk r k x
  cases k<;>exact this,h.disj,h.gens,h.fresh⟩
theorem putRow_eq {α:Type} [Inhabited α] {enc:α->Value} {w:World} {g off:Nat} {d:Array α} {cs:Array Value} {e:TypeId} {fz:Nat×Nat} (hg:w.heap[g]? =some (.cells cs e fz)):
  Sort.putRow enc w g off d=w.setRow g (Sort.putCells enc off d cs):=by
 unfold Sort.putRow Sort.mapBlock World.setRow
 congr 1
 apply Array.ext_getElem?
 intro k
 simp only [Array.getElem?_modify]
 by_cases hk:g=k
 ·subst hk
  simp only [if_true,hg]
  rfl
 ·simp [hk]
def dqd (l:List Int):List Int:=l.mergeSort fun x y=>decide (x<=y)
def SortC (P:Program) (f:FuncId):Prop:=∀ (blk off cap:Nat) (zs:List Int) (w:World),Sort.Holds (Value.int .i64) w blk off zs.toArray->blk<w.heap.size->zs.length<4611686018427387904->
  Calls P f #[.slice (some ⟨blk,off,none⟩) zs.length cap] w fun e w'=>
   e= .returned (.tuple #[])/\∃ n os,w'=Sort.grow (Sort.putRow (Value.int .i64) (Sort.ahead w n) blk off (zs.mergeSort fun x y=>decide (x<=y)).toArray) os
theorem VRL.args1 {F:Ft} {M:Mt} {a:AV} {cargs:Array Value} (h:VRL F M [a] cargs.toList):∃ v,cargs= #[v]/\VR F M a v:=by
 have hl:cargs.toList.length=1:=h.1.symm
 match hc:cargs.toList,hl with
 | [v],_=>
  refine ⟨v,Array.ext' hc,?_⟩
  rw [hc] at h
  exact h.2 0 a v rfl rfl
theorem sort_acalls {f:FuncId} (hS:SortC P f) (hc:dqq P f=true) {H:Heap} {r k top:Nat} {e:TypeId} {l:List Int} (hl:l.length=top) (hk:k<=top) (h0:0<k) (hsz:top<4611686018427387904)
  {K:AV->Heap->Prop} (hH:H r=some (.arr 1 e (l.map I) top)) (hK:K (.tup []) (upd H r (some (.arr 1 e ((dqd (l.take k)++l.drop k).map I) top)))):aqo P w0 f [.ref r 0 k top] H K:=by
 refine ⟨hc,fun w F M cargs rel hv=> ?_⟩
 obtain ⟨v,rfl,hvr⟩:=hv.args1
 obtain ⟨hcl,hes,a,cap,hM,hn,hmax,hz⟩:=rel.blk r _ hH
 cases hvr with
 | @ref _ _ _ _ cap' es' c a' b hM' hlc hcc hzz=>
  rw [hM] at hM'
  cases hM'
  have hcap:cap≠0:=by omega
  rcases hz with hz | ⟨g,o,cs,ha,hFg,hg,hfit,hC⟩
  ·exact absurd hz hcap
  subst ha
  rcases hzz with hzz | ⟨g',o',h1,h2⟩
  ·omega
  cases h1
  subst h2
  have hglt:=(Array.getElem?_eq_some_iff.1 hg).1
  have hcell:∀ j,j<k->cs[o+j]? =some (.int .i64 ((l.take k).toArray[j]!)):=by
   intro j hj
   have hj2:j<l.length:=by omega
   obtain ⟨_,cv,q1,q2⟩:=hC j (I l[j]) (by simp [hj2])
   have:=q2.sc_inv
   subst this
   rw [q1]
   congr 2
   rw [getElem!_pos _ j (by simp;omega)]
   simp
  have hHolds:Sort.Holds (Value.int .i64) w g (o+0*1) (l.take k).toArray:=by
   intro j hj
   have hj':j<k:=by simp at hj;omega
   have hce:=hcell j hj'
   refine ⟨?_,?_⟩
   ·simp only [World.cell?,hg]
    simpa using hce
   ·simp [World.frozen?,hg]
  have hlen:(l.take k).length=k:=by simp;omega
  have hcall:=hS g (o+0*1) c (l.take k) w hHolds hglt (by omega)
  rw [hlen] at hcall
  refine hcall.mono ?_
  rintro ex w' ⟨rfl,n,os,rfl⟩
  have rel1:=rel.ahead n
  have hg1:(Sort.ahead w n).heap[g]? =some (.cells cs e (0,0)):=hg
  have hslen:(dqd (l.take k)).length=k:=by rw [dqd,List.length_mergeSort,hlen]
  have hsz2:(Sort.putCells (Value.int .i64) (o+0*1) ((l.take k).mergeSort fun x y=>decide (x<=y)).toArray cs).size=cs.size:=by simp [Sort.putCells]
  have hown:Owns M r (.arr 1 e (l.map I) top) g:=⟨o,cap,1,hM,fun _=>hcap⟩
  have hC':VRC F M ((dqd (l.take k)++l.drop k).map I) (Sort.putCells (Value.int .i64) (o+0*1) ((l.take k).mergeSort fun x y=>decide (x<=y)).toArray cs) o:=by
   intro i av hi
   rw [List.getElem?_map] at hi
   have hil:i<l.length:=by
    cases hx:(dqd (l.take k)++l.drop k)[i]? with
    | none=>rw [hx] at hi;cases hi
    | some x=>
     have:=(List.getElem?_eq_some_iff.1 hx).1
     rw [List.length_append,hslen,List.length_drop] at this
     omega
   obtain ⟨_,cv,q1,q2⟩:=hC i (I l[i]) (by simp [hil])
   have:=q2.sc_inv
   subst this
   have hput:(Sort.putCells (Value.int .i64) (o+0*1) ((l.take k).mergeSort fun x y=>decide (x<=y)).toArray cs)[o+i]? =
     some (if i<k then .int .i64 ((dqd (l.take k)).toArray[i]!) else .int .i64 l[i]):=by
    simp only [Sort.putCells,Array.getElem?_mapIdx,q1,Option.map_some]
    congr 1
    have hs:((l.take k).mergeSort fun x y=>decide (x<=y)).toArray.size=k:=by
     rw [List.size_toArray];exact hslen
    rw [hs]
    by_cases hik:i<k
    ·rw [if_pos ⟨by omega,by omega⟩,if_pos hik]
     rw [show o+i-(o+0*1)=i by omega]
     rfl
    ·rw [if_neg (by omega),if_neg hik]
   by_cases hik:i<k
   ·rw [List.getElem?_append_left (by omega)] at hi
    have hx:(dqd (l.take k))[i]? =some (dqd (l.take k))[i]:=by rw [List.getElem?_eq_getElem (by omega)]
    rw [hx] at hi
    simp only [Option.map_some,Option.some.injEq] at hi
    subst hi
    refine ⟨rfl,_,hput,?_⟩
    rw [if_pos hik]
    rw [getElem!_pos _ i (by rw [List.size_toArray];omega)]
    exact .sc _
   ·rw [List.getElem?_append_right (by omega),hslen] at hi
    have hx:(l.drop k)[i-k]? =some l[i]:=by
     rw [List.getElem?_drop,show k+(i-k)=i by omega,List.getElem?_eq_getElem hil]
    rw [hx] at hi
    simp only [Option.map_some,Option.some.injEq] at hi
    subst hi
    refine ⟨rfl,_,hput,?_⟩
    rw [if_neg hik]
    exact .sc _
  have hw:=rel1.write (cells':=(dqd (l.take k)++l.drop k).map I) (cells:=l.map I) (cs':=Sort.putCells (Value.int .i64) (o+0*1) ((l.take k).mergeSort fun x y=>decide (x<=y)).toArray cs)
   hH rfl hown hM hg1 (.inl ⟨1,e,rfl⟩) (by simp only [List.length_map,List.length_append,hslen,List.length_drop];omega) hsz2 hC'
  rw [<-putRow_eq hg1,setAt_arr hH] at hw
  exact ⟨.tup [],.tuple #[],_,F,M,rfl,Ext.refl _ _,hw.grow os,.tup (fun _=>undef) rfl (fun i av h=>by simp at h) (fun i av h=>by simp at h),hK⟩
theorem wks_ref0 {r off top:Nat}:Wks (.ref r off 0 top) (.sl [] 0):=by
 intro F M cv h
 cases h with
 | ref=>exact .sl0
end
end Go.Am
