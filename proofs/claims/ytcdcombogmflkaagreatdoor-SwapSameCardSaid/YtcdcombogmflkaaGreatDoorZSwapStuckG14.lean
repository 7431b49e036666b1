/- Contracts and plain laws that the law SwapStuckG needs, part 14. -/
import Derived.Test.YtcdcombogmflkaaGreatDoorZSwapStuckG13
import Derived.LaidLaws
import Derived.LaidHandle
import Derived.Stop.Joined
namespace Go.Am
open Go Go.RowKit Go.ChangeShapes Go.WideShapes Go.Deep
set_option linter.unusedVariables false
section
variable {P : Program} (h : ∃ r, behindMainWord (wordsSigns P.initOrder.toList) = "cut".toList :: r)
include h
theorem cq0 (h1:P.laysLater=false) (h2:P.bearsReflect=false)
  (h3 : (P.doorRows.any fun n => ["(look 8)", "(look 8, test files too)", "(list 7)", "(look 7)"].any (endsIn · n)) = false) : P.mayEnter = true := by
 obtain ⟨r,h⟩:=h
 unfold Program.mayEnter Program.doorFits
 rw [h,h1,h2]
 simp only [strip_cut]
 have e1 : ("cut".toList == "gc".toList) = false := by decide +kernel
 have e2 : ("cut".toList == "spec".toList) = false := by decide +kernel
 have e3 : ("cut".toList == "carried".toList) = false := by decide +kernel
 simp only [e1,e2,e3,Bool.false_or,Bool.false_and,h3]
 simp
end
def kqc (ws:List (List Char)):Option (Bool×List Char):=
 match ws with
 | h :: s :: _ => if !isSumSigns s then none else if h == "harness".toList then some (true, s) else if h == "ownmain".toList then some (false, s) else none
 | _=>none
theorem mainIs_signs (P:Program):P.mainIs=kqc (wordsSigns P.initOrder.toList):=by
 unfold Program.mainIs kqc
 generalize wordsSigns P.initOrder.toList=ws
 rcases ws with _ | ⟨h,_ | ⟨s,r⟩⟩<;>rfl
theorem fqx {P:Program} {har:String} {l lh:List Char} (h:P.initOrder=String.ofList l) (h2:har=String.ofList lh) (k:kqc (wordsSigns l)=some (true,lh)):P.mainIs=some (true,har.toList):=by
 rw [mainIs_signs,h,h2,String.toList_ofList,String.toList_ofList]
 exact k
section
variable {H:Type} {enc:TypeId×Value->H}
theorem hq1 {C:Checked} {laid:List (String×DataW Unit)} {spec:ChangeSpec} {n:FuncId} {fn:Func} {ts:List TypeId} {rt:TypeId} {dom:List PathCond} {os:Os} (own:ownKnob C.prog.godebug=none) (started:os.Started)
  (noInit:C.prog.inits.idxOf? n=none) (hfn:C.prog.funcs[n]? =some fn) (hp:fn.params.toList=ts) (hr:fn.resultTypes= #[rt]) (hu:C.prog.underlying rt=some .bool)
  (hvars:spec.vars=[]) (hspec:∀ ds:List (DataW H),ds.length=ts.length->spec.fn H ds={ results:=[.lit (.bool true)],args:=ds })
  (hl:laidOutB C.prog=true) (hread:(ts.all fun t=>C.prog.readableRec t&&decide (t<C.prog.types.size))=true)
  (witness:∃ (w:World) (tape:Tape) (i:Input),w.os=os/\(w.forCall tape i).Shaped C.prog/\i.vars=[]/\Input.okWide C.prog (w.forCall tape i) .any w.heap.size n i/\
   ((spec.pre enc C.prog fn dom false (w.forCall tape i).memory i.args/\laidMetH C.prog laid (w.forCall tape i).memory)/\sizedMet enc C.prog fn (OpenSpec.ofChange spec) false (w.forCall tape i).memory i.args)/\({}:Assume).holds C.prog (lone (Frame.enter C.prog n i.args .normal) [] (w.forCall tape i)))
  (walk:Walks H enc C.prog n ts):ReturnsInHanded {} C os n .any (fun w args=>(spec.pre enc C.prog fn dom false w args/\laidMetH C.prog laid w)/\sizedMet enc C.prog fn (OpenSpec.ofChange spec) false w args) (spec.post enc C.prog fn false true false false):=by
 refine returnsInHanded_of_change_and (C:=C) (X:=fun w _=>laidMetH C.prog laid w) (fun _ _ _ hh h=>h.of_heap hh) own started noInit hfn witness ?_
 intro W base args ds gs before hval hW hcnd hsz _ _
 have hW':=hW
 obtain ⟨p,q,hA,hV,rfl,hfz,hnd⟩:=hW
 rw [hvars] at hV
 obtain ⟨rfl,rfl⟩:=trodVars_none hV
 rw [hp] at hA
 have hlen:ds.length=ts.length:=by
  have:∀ (ts:List TypeId) (vs:List Value) (ds:List (DataW H)) (ps:List MemPlace),DataW.TrodAll enc C.prog W 0 (fun _=>true) true ts vs ds ps->ds.length=ts.length:=by
   intro ts
   induction ts with
   | nil=>intro vs ds ps h;obtain ⟨_,rfl,_⟩:=trodAll_nil h;rfl
   | cons t ts ih=>
    intro vs ds ps h
    obtain ⟨v,vs',d,ds',p,q,rfl,rfl,rfl,h1,h2⟩:=trodAll_cons h
    simp [ih _ _ _ h2]
  exact this _ _ _ _ hA
 have hpts:∀ (j:Nat) (t:TypeId),ts[j]? =some t->fn.params[j]? =some t:=by
  intro j t h;rw [<-hp] at h;simpa using h
 have hz:∀ n∈DataW.weightsEach C.prog ts ds,n<=reachBytes:=by
  have e:spec.plain.varTypes C.prog=[]:=by simp [ChangeSpec.plain,DataSpec.varTypes,hvars]
  rw [e,List.append_nil,List.append_nil,hp] at hsz
  intro n hn
  have:=List.all_eq_true.1 hsz n hn
  simpa using this
 obtain ⟨avs,hvr,hc⟩:=walk W base args ds p hA (fun j t v h1 h2=>hval j t v (hpts j t h1) h2) hz
 refine (law_closes hc hvr).mono ?_
 rintro e W' ⟨rfl,bel⟩
 refine ⟨.bool true,rfl,ds,[],p++[],[],p,[],hW',?_,?_,?_,bel.frame _,fun h=>by cases h⟩
 ·rw [List.append_nil,hspec ds hlen,hr]
  exact trodAll_mk1 (shut_bool hu _)
 ·rw [List.append_nil,hspec ds hlen,hp]
  refine iqy hl bel ts _ _ _ (fun t ht=> ?_) hA
  have:=List.all_eq_true.1 hread t ht
  simpa using this
 ·rw [List.append_nil,hspec ds hlen,hvars]
  simp [DataW.TrodVars]
end
end Go.Am
namespace Go.Am
open Go Go.Proofs
set_option linter.unusedVariables false
set_option linter.unusedSimpArgs false
variable {w0:World}
attribute [local irreducible] AWP aqo
attribute [local congr] aqq
theorem gqd {x y:Mtd} {S:FS} (C:Com x y S) {i:Nat} (h:i<(adjS x y S).length):aq2 (adjS x y S)[i]/\(adjS x y S)[i]=out (adjS x y S) i:=by
 refine ⟨((kqq C).pts _ (List.getElem_mem h)).set,?_⟩
 rw [out_eq (by simpa using h)];simp
theorem adjS_turn {x y:Mtd} {S:FS} (C:Com x y S) {i k:Nat} (hi:i<(adjS x y S).length) (hk:k<(adjS y x S).length):(k:Int)∈(adjS x y S)[i]↔(i:Int)∈(adjS y x S)[k]:=by
 have l1:=cqn C
 have l2:=cqn C.swap
 have hn:=C.n64
 have hnn:=C.nn
 rw [(gqd C hi).2,(gqd C.swap hk).2,gqe C (by omega),gqe C.swap (by omega)]
 constructor
 ·rintro ⟨_,h | h⟩
  ·exact ⟨by omega,.inr ⟨h.1,h.2.1,h.2.2⟩⟩
  ·exact ⟨by omega,.inl ⟨h.1,h.2.1,h.2.2⟩⟩
 ·rintro ⟨_,h | h⟩
  ·exact ⟨by omega,.inr ⟨h.1,h.2.1,h.2.2⟩⟩
  ·exact ⟨by omega,.inl ⟨h.1,h.2.1,h.2.2⟩⟩
set_option maxRecDepth 20000 in
set_option maxHeartbeats 4000000 in
theorem swapSame_ret {x:Mtd} {s:List Int} (hx:LenM x) (hs:s.length<=17592186044416):Ret Tryz.prog w0 8 [mtA x,ints s] (B true):=by
 have cf:=dq3 (w0:=w0)
 have c1:=dqp (w0:=w0) x hx 8
 intro H
 cases h1:fewR x 8 with
 | false=>
  rw [h1] at c1
  obtain ⟨t,n,a,b,l,xs⟩:=x
  simp only [mtA,mtC] at c1 ⊢
  refine aqf Tryz.func8 rfl Tryz.ntmps8 (ts:=[4]) rfl (by simp) (by kernel_rfl) ?_
  repeat'(with_reducible first|(refine aqd (hK _ _ ?_);clear hK K)|refine vr [] fun K hK=>?_|((first|refine aqa fun K' hK'=>?_|refine aqb fun K' B hK' hB=>?_|(apply aqk;refine aqe rfl fun K' hK'=>?_));simp;repeat'(first|((first|refine hK' ?_|refine hB ?_);clear hK' hB K' B)|(apply hK';clear hK' K')|refine Ret.use cf ?_|refine Ret.use c1 ?_|intro hg|fail))|apply aqc|refine sp ?_|fail)
  exact ⟨by simp,aqi (by assumption)⟩
 | true=>
 have nx:=Nice.of hx h1
 rw [h1] at c1
 have c3:=cqs (w0:=w0) nx (s:=s) (by omega)
 cases hm:indT x s with
 | false=>
  rw [hm] at c3
  obtain ⟨t,n,a,b,l,xs⟩:=x
  simp only [mtA,mtC] at c1 c3 ⊢
  refine aqf Tryz.func8 rfl Tryz.ntmps8 (ts:=[4]) rfl (by simp) (by kernel_rfl) ?_
  repeat'(with_reducible first|(refine aqd (hK _ _ ?_);clear hK K)|refine vr [] fun K hK=>?_|((first|refine aqa fun K' hK'=>?_|refine aqb fun K' B hK' hB=>?_|(apply aqk;refine aqe rfl fun K' hK'=>?_));simp;repeat'(first|((first|refine hK' ?_|refine hB ?_);clear hK' hB K' B)|(apply hK';clear hK' K')|refine Ret.use cf ?_|refine Ret.use c1 ?_|refine Ret.use c3 ?_|intro hg|fail))|apply aqc|refine sp ?_|fail)
  exact ⟨by simp,aqi (by assumption)⟩
 | true=>
 rw [hm] at c3
 obtain ⟨ok,S,rfl,hsub,hI⟩:=(mq3 nx).1 hm
 have C:Com x x S:=⟨ok,ok,rfl,hsub,hI,hI⟩
 have g1:=cqv (w0:=w0) C
 have hsl:=C.slen
 have hal:=C.alen
 have har:=C.arow
 have hn:=C.n64
 have hfl:=C.fr
 have g2:=eq7 (w0:=w0) (a:=aq4 x S) (b:=aq4 x S) (by omega) (by omega)
 rw [decide_eq_true rfl] at g2
 have hrow:∀ i (h:i<(adjS x x S).length),∀ z,Ret Tryz.prog w0 38 [ints (adjS x x S)[i],I z] (B (decide (z∈(adjS x x S)[i]))):=fun i h z=>by
  have:=fqd (w0:=w0) (l:=(adjS x x S)[i]) (x:=z) (by have:=har _ (List.getElem_mem h);omega)
  rwa [aqp.2 (gqd C h).1,Bool.true_and] at this
 have hsym:∀ i k (hi:i<(adjS x x S).length) (hk:k<(adjS x x S).length),decide ((k:Int)∈(adjS x x S)[i])=decide ((i:Int)∈(adjS x x S)[k]):=fun i k hi hk=>by
  rw [decide_eq_decide];exact adjS_turn C hi hk
 have g5:Ret Tryz.prog w0 35 [I x.n] (ints (FS.upTo x.n.toNat).l):=by
  have:=jqk (w0:=w0) (n:=x.n)
  rwa [allL,if_pos (by omega)] at this
 have hUl:(FS.upTo x.n.toNat).l.length=x.n.toNat:=FS.card_upTo _
 have g7:=iqw (w0:=w0) nx (s:=(FS.upTo x.n.toNat).l) (by omega)
 rw [rankT,(eqb nx).2 ⟨ok,_,rfl,FS.sub_refl _⟩,if_pos rfl,bqr] at g7
 have hiff:(0<(aq4 x S).length)=((S.l.length:Int)<(rkM x (FS.upTo x.n.toNat):Nat)):=by
  have key:=adds_iff C.r1 hI hsub
  have h2:(∃ z,z∈FS.upTo x.n.toNat/\z∉S/\Rk.Ind (rkM x) (insert z S))↔0<(aq4 x S).length:=by
   rw [List.length_pos_iff_exists_mem]
   constructor
   ·rintro ⟨z,hz,a,b⟩
    rw [FS.mem_upTo] at hz
    exact ⟨z,(dq6 hn.1).2 ⟨by omega,a,b⟩⟩
   ·rintro ⟨z,hz⟩
    have:=(dq6 hn.1).1 hz
    exact ⟨z,by rw [FS.mem_upTo];omega,this.2⟩
  rw [<-propext h2,propext key]
  have:S.l.length=S.card:=rfl
  exact propext ⟨fun h=>by omega,fun h=>by omega⟩
 have hrk:rkM x (FS.upTo x.n.toNat)<=64:=by have:=C.r1.le_card (FS.upTo x.n.toNat);rw [FS.card_upTo] at this;omega
 clear C hsub hI hm har
 generalize adjS x x S=A at *
 generalize aq4 x S=F at *
 generalize (FS.upTo x.n.toNat).l=U at *
 generalize rkM x (FS.upTo x.n.toNat)=rk at *
 obtain ⟨t,n,a,b,l,xs⟩:=x
 have hnn:(Mtd.mk t n a b l xs).n=n:=rfl
 rw [hnn] at hal hn g5 hUl
 have hal':=eq_true hal
 simp only [mtA,mtC] at c1 c3 g1 g7 ⊢
 refine aqf Tryz.func8 rfl Tryz.ntmps8 (ts:=[4]) rfl (by simp) (by kernel_rfl) ?_
 repeat'(with_reducible first|(refine aqd (hK _ _ ?_);clear hK K)|((fail_if_success(refine aql 1 ?_));(fail_if_success(refine(?_:AWP _ _ _ (Code.region 1 _ _) _ _ _)));refine vr [] fun K hK=>?_)|(refine aqa fun K' hK'=>?_;simp;repeat'(first|(apply hK';clear hK' K')|intro hg|fail))|((fail_if_success(refine aql 1 ?_));refine sp ?_)|fail)
 rename_i p
 have hp:H p=none:=hg
 have hH:=aqi (k:=some (.box [I t,I n,I a,I b,rows l,.sl (mtCs xs) xs.length])) hp
 have lp:upd H p (some (.box [I t,I n,I a,I b,rows l,.sl (mtCs xs) xs.length])) p=some (.box [I t,I n,I a,I b,rows l,.sl (mtCs xs) xs.length]):=aqj _ _ _
 generalize upd H p _=H2 at *
 repeat'(with_reducible first|(refine aqd (hK _ _ ?_);clear hK K)|refine vr [] fun K hK=>?_|((first|refine aqa fun K' hK'=>?_|refine aqb fun K' B hK' hB=>?_|(apply aqk;refine aqe rfl fun K' hK'=>?_));simp[lp,hal',rows];repeat'(first|((first|refine hK' ?_|refine hB ?_);clear hK' hB K' B)|(apply hK';clear hK' K')|refine Ret.use cf ?_|refine Ret.use c1 ?_|refine Ret.use c3 ?_|refine Ret.use g1 ?_|refine Ret.use g2 ?_|fail))|refine sp ?_|fail)
 refine aqh (fun env h=>∃ i:Nat,i<=A.length/\h=H2/\env 9=I i/\env 5=rows A/\env 6=ints F/\env 1=ints S.l/\env 2= .ptr p 0 0) (fun env _=>A.length-natA (env 9)) ?_ ?_
 ·exact ⟨0,by omega,rfl,by simp,by simp [rows],by simp,by simp,by simp⟩
 rintro env h ⟨i,hi,rfl,h9,h5,h6,h1',h2⟩
 have hnat:natA (env 9)=i:=by simp [h9]
 rw [hnat];clear hnat
 by_cases gi:i<A.length
 ·repeat'(with_reducible first|(refine aqd (hK _ _ ?_);clear hK K)|refine vr [] fun K hK=>?_|((first|refine aqa fun K' hK'=>?_|refine aqb fun K' B hK' hB=>?_);simp[h9,h5,h6,h1',h2,rows,gi];repeat'(first|((first|refine hK' ?_|refine hB ?_);clear hK' hB K' B)|(apply hK';clear hK' K')|fail))|refine sp ?_|fail)
  refine aqh (fun env h'=>∃ k:Nat,k<=A.length/\h'=h/\env 10=I k/\env 9=I i/\env 5=rows A/\env 6=ints F/\env 1=ints S.l/\env 2= .ptr p 0 0) (fun env _=>A.length-natA (env 10)) ?_ ?_
  ·exact ⟨0,by omega,rfl,by simp,by simp [h9],by simp [h5,rows],by simp [h6],by simp [h1'],by simp [h2]⟩
  clear h9 h5 h6 h1' h2 env
  rintro env h' ⟨k,hk,rfl,h10,h9,h5,h6,h1',h2⟩
  have hnat:natA (env 10)=k:=by simp [h10]
  rw [hnat];clear hnat
  by_cases gk:k<A.length
  ·have d1:=hrow i gi k
   have d2:=hrow k gk i
   rw [hsym i k gi gk] at d1
   have e1:∀ h:i<A.length,A[i]'h=A[i]'gi:=fun _=>rfl
   have e2:∀ h:k<A.length,A[k]'h=A[k]'gk:=fun _=>rfl
   generalize decide ((i:Int)∈A[k])=v at *
   generalize A[i]=a1 at *
   generalize A[k]=a2 at *
   repeat'(with_reducible first|(refine aqd (hK _ _ ?_);clear hK K)|((fail_if_success(refine aql 12 ?_));(fail_if_success(refine(?_:AWP _ _ _ (Code.region 12 _ _) _ _ _)));refine vr [] fun K hK=>?_)|((first|refine aqa fun K' hK'=>?_|refine aqb fun K' B hK' hB=>?_);simp[h10,h9,h5,h6,h1',h2,rows,gk];repeat'(first|((first|refine hK' ?_|refine hB ?_);clear hK' hB K' B)|(apply hK';clear hK' K')|fail))|((fail_if_success(refine aql 12 ?_));refine sp ?_)|fail)
   refine aq7 mixed [] [63,64,69,70] [0,1,2,3,4,6,7,8,9,10,5,11,12] (by kernel_rfl) (fun K hK=> ?_)
   simp only [List.filterMap_cons,List.filterMap_nil,List.getElem?_cons_succ,List.getElem?_cons_zero]
   repeat'(with_reducible first|(refine sp (hK _ _ ?_);clear hK K)|refine vr [] fun K hK=>?_|((first|refine aqa fun K' hK'=>?_|refine aqb fun K' B hK' hB=>?_|refine aqm fun K' hK'=>?_);simp[h10,h9,h5,h6,h1',h2,rows,gk,gi,e1,e2,boxes,Blk.isArr,aqg.refl];repeat'(first|((first|refine hK' ?_|refine hB ?_);clear hK' hB K' B)|(apply hK';clear hK' K')|(refine Ret.use d1 ?_;try simp[h10,h9,h5,h6,h1',h2,rows,gk,gi,e1,e2,boxes,Blk.isArr,aqg.refl])|(refine Ret.use d2 ?_;try simp[h10,h9,h5,h6,h1',h2,rows,gk,gi,e1,e2,boxes,Blk.isArr,aqg.refl])|refine And.intro ?_ ?_|(clear hK' K';omega)))|refine sp ?_|fail)
   exact ⟨⟨k+1,by omega,rfl,by simp,by simp [h9],by simp [h5,rows],by simp [h6],by simp [h1'],by simp [h2]⟩,by simp;omega⟩
  ·obtain rfl:k=A.length:=by omega
   repeat'(with_reducible first|(refine aqd (hK _ _ ?_);clear hK K)|refine vr [] fun K hK=>?_|((first|refine aqa fun K' hK'=>?_|refine aqb fun K' B hK' hB=>?_);simp[h10,h9,h5,h6,h1',h2,rows,gk];repeat'(first|((first|refine hK' ?_|refine hB ?_);clear hK' hB K' B)|(apply hK';clear hK' K')|refine And.intro ?_ ?_|(clear hK' K';omega)))|refine sp ?_|fail)
   exact ⟨⟨i+1,by omega,rfl,by simp,by simp [h5,rows],by simp [h6],by simp [h1'],by simp [h2]⟩,by simp;omega⟩
 ·obtain rfl:i=A.length:=by omega
  repeat'(with_reducible first|(refine aqd (hK _ _ ?_);clear hK K)|((fail_if_success(refine aql 14 ?_));(fail_if_success(refine(?_:AWP _ _ _ (Code.region 14 _ _) _ _ _)));refine vr [] fun K hK=>?_)|((first|refine aqa fun K' hK'=>?_|refine aqb fun K' B hK' hB=>?_);simp[h9,h5,h6,h1',h2,rows,gi];repeat'(first|((first|refine hK' ?_|refine hB ?_);clear hK' hB K' B)|(apply hK';clear hK' K')|fail))|((fail_if_success(refine aql 14 ?_));refine sp ?_)|fail)
  refine aq7 mixed [] [79,81] [0,1,2,3,4,5,6,7,8,9,10,11,12] (by kernel_rfl) (fun K hK=> ?_)
  simp only [List.filterMap_cons,List.filterMap_nil,List.getElem?_cons_succ,List.getElem?_cons_zero]
  by_cases gf:0<F.length
  ·have gf2:(S.l.length:Int)<rk:=by rw [<-hiff];exact gf
   repeat'(with_reducible first|(refine sp (hK _ _ ?_);clear hK K)|(refine aqm fun K' hK'=>?_;simp[h9,h5,h6,h1',h2,lp,gf,gf2,boxes,Blk.isArr,aqg.refl];repeat'(first|(apply hK';clear hK' K')|(refine Ret.use g5 ?_;try simp[h9,h5,h6,h1',h2,lp,gf,gf2,boxes,Blk.isArr,aqg.refl])|(refine Ret.use g7 ?_;try simp[h9,h5,h6,h1',h2,lp,gf,gf2,boxes,Blk.isArr,aqg.refl])|fail))|apply aqc|refine sp ?_|fail)
   exact ⟨by simp,hH⟩
  ·have gf2:¬(S.l.length:Int)<rk:=by rw [<-hiff];exact gf
   repeat'(with_reducible first|(refine sp (hK _ _ ?_);clear hK K)|(refine aqm fun K' hK'=>?_;simp[h9,h5,h6,h1',h2,lp,gf,gf2,boxes,Blk.isArr,aqg.refl];repeat'(first|(apply hK';clear hK' K')|(refine Ret.use g5 ?_;try simp[h9,h5,h6,h1',h2,lp,gf,gf2,boxes,Blk.isArr,aqg.refl])|(refine Ret.use g7 ?_;try simp[h9,h5,h6,h1',h2,lp,gf,gf2,boxes,Blk.isArr,aqg.refl])|fail))|apply aqc|refine sp ?_|fail)
   exact ⟨by simp,hH⟩
end Go.Am
namespace Go.Am
open Go Go.Proofs
set_option linter.unusedVariables false
set_option linter.unusedSimpArgs false
variable {w0:World}
attribute [local irreducible] AWP aqo
attribute [local congr] aqq
set_option maxRecDepth 20000 in
set_option maxHeartbeats 4000000 in
theorem swapNone_ret {x y:Mtd} {s:List Int} (hx:LenM x) (hy:LenM y) (hs:s.length<=17592186044416):Ret Tryz.prog w0 7 [mtA x,mtA y,ints s] (B true):=by
 have cf:=dq3 (w0:=w0)
 have c1:=dqp (w0:=w0) x hx 8
 have c2:=dqp (w0:=w0) y hy 8
 have c4:=bqj (w0:=w0) (l:=s) (by omega)
 intro H
 have hcase:(fewR x 8=false\/fewR x 8=true/\fewR y 8=false)\/fewR x 8=true/\fewR y 8=true:=by
  cases fewR x 8<;>cases fewR y 8<;>simp
 rcases hcase with (h1 | ⟨h1,h2⟩) | ⟨h1,h2⟩
 rotate_right
 rotate_left
 iterate 2
  rw [h1] at c1
  try rw [h2] at c2
  obtain ⟨t,n,a,b,l,xs⟩:=x
  obtain ⟨t',n',a',b',l',xs'⟩:=y
  simp only [mtA,mtC] at c1 c2 ⊢
  refine aqf Tryz.func7 rfl Tryz.ntmps7 (ts:=[6]) rfl (by simp) (by kernel_rfl) ?_
  repeat'(with_reducible first|(refine aqd (hK _ _ ?_);clear hK K)|((fail_if_success(refine aql 1 ?_));(fail_if_success(refine(?_:AWP _ _ _ (Code.region 1 _ _) _ _ _)));refine vr [] fun K hK=>?_)|(refine aqa fun K' hK'=>?_;simp;repeat'(first|(apply hK';clear hK' K')|intro hg|fail))|((fail_if_success(refine aql 1 ?_));refine sp ?_)|fail)
  rename_i p hp q
  obtain ⟨hqp,hq⟩:=bqu hg
  have hpq:p≠q:=Ne.symm hqp
  have hsub:=((Sub.refl H).upd hp (some (.box [I t,I n,I a,I b,rows l,.sl (mtCs xs) xs.length]))).upd hq (some (.box [I t',I n',I a',I b',rows l',.sl (mtCs xs') xs'.length]))
  repeat'(with_reducible first|(refine aqd (hK _ _ ?_);clear hK K)|refine vr [] fun K hK=>?_|((first|refine aqa fun K' hK'=>?_|refine aqb fun K' B hK' hB=>?_|(apply aqk;refine aqe rfl fun K' hK'=>?_));simp[hqp,hpq];repeat'(first|((first|refine hK' ?_|refine hB ?_);clear hK' hB K' B)|(apply hK';clear hK' K')|refine Ret.use cf ?_|refine Ret.use c1 ?_|refine Ret.use c2 ?_|fail))|apply aqc|refine sp ?_|fail)
  exact ⟨by simp,hsub⟩
 have nx:=Nice.of hx h1
 have ny:=Nice.of hy h2
 rw [h1] at c1
 rw [h2] at c2
 have c3:=iqb (w0:=w0) nx ny (s:=[]) (by simp)
 have hcase:(mayS x y []=false\/mayS x y []=true/\20<s.length\/mayS x y []=true/\¬20<s.length/\aqt (-1) s=false)\/mayS x y []=true/\¬20<s.length/\aqt (-1) s=true:=by
  cases mayS x y []<;>cases aqt (-1) s<;>by_cases h:20<s.length<;>simp [h]
 rcases hcase with (hm | ⟨hm,g20⟩ | ⟨hm,g20,hr⟩) | ⟨hm,g20,hr⟩
 rotate_right
 rotate_left
 iterate 3
  rw [hm] at c3
  try rw [hr] at c4
  obtain ⟨t,n,a,b,l,xs⟩:=x
  obtain ⟨t',n',a',b',l',xs'⟩:=y
  simp only [mtA,mtC,ints,List.map_nil,List.length_nil] at c1 c2 c3 c4 ⊢
  refine aqf Tryz.func7 rfl Tryz.ntmps7 (ts:=[6]) rfl (by simp) (by kernel_rfl) ?_
  repeat'(with_reducible first|(refine aqd (hK _ _ ?_);clear hK K)|((fail_if_success(refine aql 1 ?_));(fail_if_success(refine(?_:AWP _ _ _ (Code.region 1 _ _) _ _ _)));refine vr [] fun K hK=>?_)|(refine aqa fun K' hK'=>?_;simp;repeat'(first|(apply hK';clear hK' K')|intro hg|fail))|((fail_if_success(refine aql 1 ?_));refine sp ?_)|fail)
  rename_i p hp q
  obtain ⟨hqp,hq⟩:=bqu hg
  have hpq:p≠q:=Ne.symm hqp
  have hsub:=((Sub.refl H).upd hp (some (.box [I t,I n,I a,I b,rows l,.sl (mtCs xs) xs.length]))).upd hq (some (.box [I t',I n',I a',I b',rows l',.sl (mtCs xs') xs'.length]))
  first | have g21:=eq_true (show (20:Int)<s.length by omega) | have g21:=eq_false (show ¬(20:Int)<s.length by omega) | have g21:True:=trivial
  repeat'(with_reducible first|(refine aqd (hK _ _ ?_);clear hK K)|refine vr [] fun K hK=>?_|((first|refine aqa fun K' hK'=>?_|refine aqb fun K' B hK' hB=>?_|(apply aqk;refine aqe rfl fun K' hK'=>?_));simp[hqp,hpq,g21];repeat'(first|((first|refine hK' ?_|refine hB ?_);clear hK' hB K' B)|(apply hK';clear hK' K')|refine Ret.use cf ?_|refine Ret.use c1 ?_|refine Ret.use c2 ?_|refine Ret.use c3 ?_|refine Ret.use c4 ?_|fail))|apply aqc|refine sp ?_|fail)
  exact ⟨by simp,hsub⟩
 rw [hm] at c3
 rw [hr] at c4
 obtain ⟨S,hSe,C⟩:=com_of nx ny hm
 have hS0:S= ∅ :=FS.ext fun z=>by
  rw [FS.mem_def,<-hSe];simp
 have g1:=cqv (w0:=w0) C
 rw [<-hSe] at g1
 have hal:=C.alen
 have hn:=C.n64
 have hset:=aqp.1 hr
 obtain ⟨T,rfl⟩:∃ T:FS,s=T.l:=⟨⟨s,hset.up⟩,rfl⟩
 have hok:∀ z∈T.l,0<=z/\z<=1099511627776:=hset.ok
 have g2:=dq7 (w0:=w0) (s:=[]) (path:=T.l) (by simp) (by omega)
 have e0:gq8 [] T.l=T.l:=by
  have:=mqe (S:= ∅) (p:=T.l) ⟨by exact List.Pairwise.nil,by intro z hz;cases hz⟩ T.nodup hok
  rw [show gq8 [] T.l=gq8 (∅ :FS).l T.l from rfl,this,cqw,bqr,turn_none]
 rw [e0] at g2
 have g3:=dq7 (w0:=w0) (s:=T.l) (path:=T.l) (by omega) (by omega)
 have e1:gq8 T.l T.l=[]:=by
  rw [mqe hset T.nodup hok,cqw,bqr,turn_self];rfl
 rw [e1] at g3
 have g4:=eq7 (w0:=w0) (a:=T.l) (b:=T.l) (by omega) (by omega)
 rw [decide_eq_true rfl] at g4
 have hempty:∀ i (h:i<(adjS x y S).length),(adjS x y S)[i]=[]:=fun i h=>by
  have hl:=cqn C
  rw [(gqd C h).2]
  refine List.eq_nil_iff_forall_not_mem.2 fun z hz=> ?_
  rw [gqe C (by omega),hS0] at hz
  rcases hz.2 with k | k
  ·simpa using k.1
  ·simpa using k.1
 have hfr:∀ z:Nat,(z:Int)<x.n->Ret Tryz.prog w0 38 [ints (aq4 x S),I z] (B (indT x [(z:Int)]))/\Ret Tryz.prog w0 38 [ints (aq4 y S),I z] (B (indT y [(z:Int)]))/\Ret Tryz.prog w0 31 [mtA x,ints [(z:Int)]] (B (indT x [(z:Int)]))/\Ret Tryz.prog w0 31 [mtA y,ints [(z:Int)]] (B (indT y [(z:Int)])):=fun z hz=>by
  have hl1:=C.fr
  have hl2:=C.to
  have one:∀ {m:Mtd},OkT m->m.n=x.n->indT m [(z:Int)]=decide ((z:Int)∈aq4 m S):=fun {m} hm hmn=>by
   have hs1:FS.ofList [(z:Int)]⊆FS.upTo m.n.toNat:=fun v hv=>by rw [FS.mem_ofList] at hv;simp at hv;rw [FS.mem_upTo];omega
   have hl:(FS.ofList [(z:Int)]).l=[(z:Int)]:=fs_one
   rw [<-hl,dqo hm hs1,decide_eq_decide,dq6 (by omega),hS0,show (insert (z:Int) (∅ :FS):FS)=FS.ofList [(z:Int)] from FS.ext fun v=>by rw [FS.mem_insert,FS.mem_ofList];simp]
   constructor
   ·exact fun k=>⟨by omega,by simp,k⟩
   ·exact fun k=>k.2.2
  have a1:=fqd (w0:=w0) (l:=aq4 x S) (x:=z) (by omega)
  have a2:=fqd (w0:=w0) (l:=aq4 y S) (x:=z) (by omega)
  rw [aqp.2 (eqy C.n64).set,Bool.true_and,<-one C.oa rfl] at a1
  rw [aqp.2 (eqy C.swap.n64).set,Bool.true_and,<-one C.ob C.nn.symm] at a2
  exact ⟨a1,a2,cqs nx (by simp),cqs ny (by simp)⟩
 clear C hS0 hSe hset hok e0 e1 hm hr
 generalize adjS x y S=A at *
 generalize aq4 x S=F at *
 generalize aq4 y S=G at *
 generalize indT x=vx at *
 generalize indT y=vy at *
 obtain ⟨t,n,a,b,l,xs⟩:=x
 obtain ⟨t',n',a',b',l',xs'⟩:=y
 have hnn:(Mtd.mk t n a b l xs).n=n:=rfl
 rw [hnn] at hal hn hfr
 have hal':=eq_true hal
 have g20':¬(20:Int)<T.l.length:=by omega
 generalize T.l=Tl at *
 simp only [mtA,mtC] at c1 c2 c3 g1 hfr ⊢
 refine aqf Tryz.func7 rfl Tryz.ntmps7 (ts:=[6]) rfl (by simp) (by kernel_rfl) ?_
 repeat'(with_reducible first|(refine aqd (hK _ _ ?_);clear hK K)|((fail_if_success(refine aql 1 ?_));(fail_if_success(refine(?_:AWP _ _ _ (Code.region 1 _ _) _ _ _)));refine vr [] fun K hK=>?_)|(refine aqa fun K' hK'=>?_;simp;repeat'(first|(apply hK';clear hK' K')|intro hg|fail))|((fail_if_success(refine aql 1 ?_));refine sp ?_)|fail)
 rename_i p hp q
 obtain ⟨hqp,hq⟩:=bqu hg
 have hpq:p≠q:=Ne.symm hqp
 obtain ⟨H2,hH2⟩:∃ H2,H2=upd (upd H p (some (.box [I t,I n,I a,I b,rows l,.sl (mtCs xs) xs.length]))) q (some (.box [I t',I n',I a',I b',rows l',.sl (mtCs xs') xs'.length])):=⟨_,rfl⟩
 have hsub:Sub H H2:=by rw [hH2];exact ((Sub.refl H).upd hp _).upd hq _
 have lp:H2 p=some (.box [I t,I n,I a,I b,rows l,.sl (mtCs xs) xs.length]):=by rw [hH2,aqn _ _ _ hpq,aqj]
 have lq:H2 q=some (.box [I t',I n',I a',I b',rows l',.sl (mtCs xs') xs'.length]):=by rw [hH2,aqj]
 rw [<-hH2]
 clear hH2 hp hq
 simp only [ints,List.map_nil,List.length_nil] at c3 c4 g1 g2 g3 g4
 repeat'(with_reducible first|(refine aqd (hK _ _ ?_);clear hK K)|refine vr [] fun K hK=>?_|((first|refine aqa fun K' hK'=>?_|refine aqb fun K' B hK' hB=>?_|(apply aqk;refine aqe rfl fun K' hK'=>?_));simp[lp,lq,g20,g20',ints];repeat'(first|((first|refine hK' ?_|refine hB ?_);clear hK' hB K' B)|(apply hK';clear hK' K')|refine Ret.use cf ?_|refine Ret.use c1 ?_|refine Ret.use c2 ?_|refine Ret.use c3 ?_|refine Ret.use c4 ?_|refine Ret.use g1 ?_|fail))|refine sp ?_|fail)
 refine aqh (fun env h=>∃ i:Nat,i<=A.length/\h=H2/\env 11=I i/\env 7=rows A/\env 8=ints F/\env 9=ints G/\env 10=I 0/\env 2=ints Tl/\env 3= .ptr p 0 0/\env 4= .ptr q 0 0) (fun env _=>A.length-natA (env 11)) ?_ ?_
 ·exact ⟨0,by omega,rfl,by simp,by simp [rows],by simp [ints],by simp [ints],by simp,by simp [ints],by simp,by simp⟩
 rintro env h ⟨i,hi,rfl,h11,h7,h8,h9,h10,h2',h3,h4⟩
 have hnat:natA (env 11)=i:=by simp [h11]
 rw [hnat];clear hnat
 by_cases gi:i<A.length
 ·have e1:∀ h:i<A.length,A[i]'h=[]:=fun h=>hempty i h
  repeat'(with_reducible first|(refine aqd (hK _ _ ?_);clear hK K)|refine vr [] fun K hK=>?_|((first|refine aqa fun K' hK'=>?_|refine aqb fun K' B hK' hB=>?_);simp[h11,h7,h8,h9,h10,h2',h3,h4,rows,gi,e1];repeat'(first|((first|refine hK' ?_|refine hB ?_);clear hK' hB K' B)|(apply hK';clear hK' K')|refine And.intro ?_ ?_|(clear hK' K';omega)))|refine sp ?_|fail)
  exact ⟨⟨i+1,by omega,rfl,by simp,by simp [h7,rows],by simp [h8],by simp [h9],by simp [h10],by simp [h2'],by simp [h3],by simp [h4]⟩,by simp;omega⟩
 obtain rfl:i=A.length:=by omega
 repeat'(with_reducible first|(refine aqd (hK _ _ ?_);clear hK K)|refine vr [] fun K hK=>?_|((first|refine aqa fun K' hK'=>?_|refine aqb fun K' B hK' hB=>?_);simp[h11,h7,h8,h9,h10,h2',h3,h4,rows,gi];repeat'(first|((first|refine hK' ?_|refine hB ?_);clear hK' hB K' B)|(apply hK';clear hK' K')|fail))|refine sp ?_|fail)
 refine aqh (fun env h'=>∃ z:Nat,z<=A.length/\h'=h/\env 12=I z/\env 7=rows A/\env 8=ints F/\env 9=ints G/\env 10=I 0/\env 2=ints Tl/\env 3= .ptr p 0 0/\env 4= .ptr q 0 0) (fun env _=>A.length-natA (env 12)) ?_ ?_
 ·exact ⟨0,by omega,rfl,by simp,by simp [h7,rows],by simp [h8],by simp [h9],by simp [h10],by simp [h2'],by simp [h3],by simp [h4]⟩
 clear h11 h7 h8 h9 h10 h2' h3 h4 env
 rintro env h' ⟨z,hz,rfl,h12,h7,h8,h9,h10,h2',h3,h4⟩
 have hnat:natA (env 12)=z:=by simp [h12]
 rw [hnat];clear hnat
 by_cases gz:(z:Int)<n
 ·obtain ⟨d1,d2,d3,d4⟩:=hfr z gz
  generalize vx [(z:Int)]=v1 at *
  generalize vy [(z:Int)]=v2 at *
  simp only [ints,List.map_cons,List.map_nil,List.length_singleton] at d1 d2 d3 d4
  repeat'(with_reducible first|(refine aqd (hK _ _ ?_);clear hK K)|((fail_if_success(refine aql 12 ?_));(fail_if_success(refine(?_:AWP _ _ _ (Code.region 12 _ _) _ _ _)));refine vr [] fun K hK=>?_)|((first|refine aqa fun K' hK'=>?_|refine aqb fun K' B hK' hB=>?_);simp[h12,h7,h8,h9,h10,h2',h3,h4,lp,lq,gz,ints];repeat'(first|((first|refine hK' ?_|refine hB ?_);clear hK' hB K' B)|(apply hK';clear hK' K')|fail))|((fail_if_success(refine aql 12 ?_));refine sp ?_)|fail)
  refine aq7 mixed [] [71,80] [0,1,3,4,5,2,6,7,8,9,10,12,13,14,11,15,16,17] (by kernel_rfl) (fun K hK=> ?_)
  simp only [List.filterMap_cons,List.filterMap_nil,List.getElem?_cons_succ,List.getElem?_cons_zero]
  repeat'(with_reducible first|(refine sp (hK _ _ ?_);clear hK K)|refine vr [] fun K hK=>?_|((first|refine aqa fun K' hK'=>?_|refine aqb fun K' B hK' hB=>?_|refine aqm fun K' hK'=>?_|(apply cqh;refine aqx rfl fun K' hK'=>?_));simp[h12,h7,h8,h9,h10,h2',h3,h4,lp,lq,gz,ints,boxes,Blk.isArr,aqg.refl];repeat'(first|((first|refine hK' ?_|refine hB ?_);clear hK' hB K' B)|(apply hK';clear hK' K')|(refine Ret.use d1 ?_;try simp[h12,h7,h8,h9,h10,h2',h3,h4,lp,lq,gz,ints,boxes,Blk.isArr,aqg.refl])|(refine Ret.use d2 ?_;try simp[h12,h7,h8,h9,h10,h2',h3,h4,lp,lq,gz,ints,boxes,Blk.isArr,aqg.refl])|(refine Ret.use d3 ?_;try simp[h12,h7,h8,h9,h10,h2',h3,h4,lp,lq,gz,ints,boxes,Blk.isArr,aqg.refl])|(refine Ret.use d4 ?_;try simp[h12,h7,h8,h9,h10,h2',h3,h4,lp,lq,gz,ints,boxes,Blk.isArr,aqg.refl])|refine And.intro ?_ ?_|(clear hK' K';omega)))|refine sp ?_|fail)
  exact ⟨⟨z+1,by omega,rfl,by simp,by simp [h7],by simp [h8],by simp [h9],by simp [h10],by simp [h2',ints],by simp [h3],by simp [h4]⟩,by simp;omega⟩
 ·repeat'(with_reducible first|(refine aqd (hK _ _ ?_);clear hK K)|refine vr [] fun K hK=>?_|((first|refine aqa fun K' hK'=>?_|refine aqb fun K' B hK' hB=>?_|(apply aqk;refine aqe rfl fun K' hK'=>?_));simp[h12,h7,h8,h9,h10,h2',h3,h4,lp,lq,gz,ints,rows,hal'];repeat'(first|((first|refine hK' ?_|refine hB ?_);clear hK' hB K' B)|(apply hK';clear hK' K')|refine Ret.use g2 ?_|refine Ret.use g3 ?_|refine Ret.use g4 ?_|fail))|apply aqc|refine sp ?_|fail)
  exact ⟨by simp,hsub⟩
end Go.Am
namespace Go.Am
open Go Go.Proofs
set_option linter.unusedVariables false
set_option linter.unusedSimpArgs false
variable {w0:World}
attribute [local irreducible] AWP aqo
attribute [local congr] aqq
theorem sort_same {p:List Int} (h:(bq0 p).length=p.length):∀ x∈p,0<=x/\x<=1099511627776:=fun x hx=>by
 have hs:=cq6 p
 by_cases hx':x∈bq0 p
 ·exact ((hs.2 x).1 hx').2
 ·exfalso
  have h1:(x::bq0 p).length<=p.length:=bqs (x::bq0 p) p (List.nodup_cons.2 ⟨hx',hs.1.nodup⟩) fun y hy=>by
   rcases List.mem_cons.1 hy with rfl | hy
   ·exact hx
   ·exact ((hs.2 y).1 hy).1
  simp at h1;omega
theorem turn_back {S:FS} (hS:aq2 S.l) {p:List Int} (h:(bq0 p).length=p.length):∃ T:FS,gq8 S.l p=T.l/\gq8 T.l p=S.l/\T.l.length<=S.l.length+p.length:=by
 have hr:=sort_same h
 have e:∀ A:FS,aq2 A.l->gq8 A.l p=(cqw A p).l:=fun A hA=>by
  rw [gq8,aqp.2 hA,h,bqr,cqw];simp
 refine ⟨cqw S p,e S hS,?_,?_⟩
 ·rw [e (cqw S p) ⟨(cqw S p).up,fun x hx=> ?_⟩]
  ·rw [cqw,cqw,turn_twice]
  ·have hx':=aq9.1 hx
   rw [cqw,FS.mem_union,FS.mem_sdiff,FS.mem_sdiff,FS.mem_ofList] at hx'
   rcases hx' with k | k
   ·exact hS.ok x k.1
   ·exact hr x k.1
 ·have h1:(cqw S p).card<=(S \ FS.ofList p).card+(FS.ofList p \ S).card:=by
   have:=FS.card_union (S \ FS.ofList p) (FS.ofList p \ S)
   rw [cqw];omega
  have h2:(S \ FS.ofList p).card<=S.card:=FS.card_le fun x hx=>(FS.mem_sdiff.1 hx).1
  have h3:(FS.ofList p \ S).card<=p.length:=bqs _ _ (FS.ofList p \ S).nodup fun x hx=>FS.mem_ofList.1 (FS.mem_sdiff.1 (aq9.1 hx)).1
  have e1:(cqw S p).l.length=(cqw S p).card:=rfl
  have e2:S.l.length=S.card:=rfl
  omega
set_option maxRecDepth 20000 in
set_option maxHeartbeats 4000000 in
theorem swapBack_ret {x y:Mtd} {s pa:List Int} (hx:LenM x) (hy:LenM y) (hs:s.length<=17592186044416) (hpa:pa.length<=17592186044416):Ret Tryz.prog w0 6 [mtA x,mtA y,.agg [ints s,ints pa]] (B true):=by
 have cf:=dq3 (w0:=w0)
 have c1:=dqp (w0:=w0) x hx 8
 have c2:=dqp (w0:=w0) y hy 8
 have c4:¬20<pa.length->Ret Tryz.prog w0 37 [ints pa] (ints (bq0 pa)):=fun h=>jq2 (w0:=w0) (l:=pa) (by omega)
 intro H
 have hcase:(fewR x 8=false\/fewR x 8=true/\fewR y 8=false\/fewR x 8=true/\fewR y 8=true/\mayS x y s=false\/fewR x 8=true/\fewR y 8=true/\mayS x y s=true/\20<pa.length\/fewR x 8=true/\fewR y 8=true/\mayS x y s=true/\¬20<pa.length/\¬(bq0 pa).length=pa.length)\/
   fewR x 8=true/\fewR y 8=true/\mayS x y s=true/\¬20<pa.length/\(bq0 pa).length=pa.length:=by
  cases fewR x 8<;>cases fewR y 8<;>cases mayS x y s<;>by_cases h:20<pa.length<;>by_cases h':(bq0 pa).length=pa.length<;>simp [h,h']
 have c3:fewR x 8=true->fewR y 8=true->Ret Tryz.prog w0 24 [mtA x,mtA y,ints s] (B (mayS x y s)):=fun h1 h2=>iqb (w0:=w0) (Nice.of hx h1) (Nice.of hy h2) (s:=s) (by omega)
 rcases hcase with (h1 | ⟨h1,h2⟩ | ⟨h1,h2,hm⟩ | ⟨h1,h2,hm,g20⟩ | ⟨h1,h2,hm,g20,hsl⟩) | ⟨h1,h2,hm,g20,hsl⟩
 rotate_right
 rotate_left
 iterate 5
  try have c3:=c3 h1 h2
  try have c4:=c4 g20
  try rw [hm] at c3
  rw [h1] at c1
  try rw [h2] at c2
  first | have g21:=eq_true (show (20:Int)<pa.length by omega) | have g21:=eq_false (show ¬(20:Int)<pa.length by omega) | have g21:True:=trivial
  first | have g22:=eq_false (show ¬((bq0 pa).length:Int)=pa.length by omega) | have g22:True:=trivial
  generalize bq0 pa=sq at *
  obtain ⟨t,n,a,b,l,xs⟩:=x
  obtain ⟨t',n',a',b',l',xs'⟩:=y
  simp only [mtA,mtC] at c1 c2 c3 ⊢
  refine aqf Tryz.func6 rfl Tryz.ntmps6 (ts:=[6]) rfl (by simp) (by kernel_rfl) ?_
  repeat'(with_reducible first|(refine aqd (hK _ _ ?_);clear hK K)|((fail_if_success(refine aql 1 ?_));(fail_if_success(refine(?_:AWP _ _ _ (Code.region 1 _ _) _ _ _)));refine vr [] fun K hK=>?_)|(refine aqa fun K' hK'=>?_;simp;repeat'(first|(apply hK';clear hK' K')|intro hg|fail))|((fail_if_success(refine aql 1 ?_));refine sp ?_)|fail)
  rename_i p hp q hq0 r
  obtain ⟨hqp,hq⟩:=bqu hq0
  obtain ⟨hrq,hrp,hr⟩:=kqd hg
  clear hg hq0
  have hsub:=(((Sub.refl H).upd hp (some (.box [I t,I n,I a,I b,rows l,.sl (mtCs xs) xs.length]))).upd hq (some (.box [I t',I n',I a',I b',rows l',.sl (mtCs xs') xs'.length]))).upd hr (some (.box [ints s,ints pa]))
  refine aq7 mixed [] [20,25,30,31,33,39,45,49] [0,1,2,3,4,5,6,7,8,9,10,11,12,13,14,15,16,17,18,19,20,21,22,23,24,25,26,27,28,31,32,33,29,30,34,35] (by kernel_rfl) (fun K hK=> ?_)
  simp only [List.filterMap_cons,List.filterMap_nil,List.getElem?_cons_succ,List.getElem?_cons_zero]
  repeat'(with_reducible first|(refine sp (hK _ _ ?_);clear hK K)|refine vr [] fun K hK=>?_|((first|refine aqa fun K' hK'=>?_|refine aqb fun K' B hK' hB=>?_|refine aqm fun K' hK'=>?_|(apply cqh;refine aqx rfl fun K' hK'=>?_));simp[hqp,Ne.symm hqp,hrq,Ne.symm hrq,hrp,Ne.symm hrp,g21,g22,boxes,Blk.isArr,aqg.refl];repeat'(first|((first|refine hK' ?_|refine hB ?_);clear hK' hB K' B)|(apply hK';clear hK' K')|(refine Ret.use cf ?_;try simp[hqp,Ne.symm hqp,hrq,Ne.symm hrq,hrp,Ne.symm hrp,g21,g22,boxes,Blk.isArr,aqg.refl])|(refine Ret.use c1 ?_;try simp[hqp,Ne.symm hqp,hrq,Ne.symm hrq,hrp,Ne.symm hrp,g21,g22,boxes,Blk.isArr,aqg.refl])|(refine Ret.use c2 ?_;try simp[hqp,Ne.symm hqp,hrq,Ne.symm hrq,hrp,Ne.symm hrp,g21,g22,boxes,Blk.isArr,aqg.refl])|(refine Ret.use c3 ?_;try simp[hqp,Ne.symm hqp,hrq,Ne.symm hrq,hrp,Ne.symm hrp,g21,g22,boxes,Blk.isArr,aqg.refl])|(refine Ret.use c4 ?_;try simp[hqp,Ne.symm hqp,hrq,Ne.symm hrq,hrp,Ne.symm hrp,g21,g22,boxes,Blk.isArr,aqg.refl])|fail))|apply aqc|refine sp ?_|fail)
  exact ⟨by simp,hsub⟩
 have nx:=Nice.of hx h1
 have ny:=Nice.of hy h2
 have c3:=c3 h1 h2
 have c4:=c4 g20
 obtain ⟨S,rfl,C⟩:=com_of nx ny hm
 rw [hm] at c3
 rw [h1] at c1
 rw [h2] at c2
 have g1:=cqv (w0:=w0) C
 have g2:=cqv (w0:=w0) C.swap
 have hsl':=C.slen
 have hal:=C.alen
 have har:=C.arow
 have har2:=C.swap.arow
 have hll:(adjS x y S).length=(adjS y x S).length:=by rw [cqn C,cqn C.swap,C.nn]
 have hn:=C.n64
 have e1:=eq7 (w0:=w0) (a:=aq4 x S) (b:=aq4 x S) (by have:=C.fr;omega) (by have:=C.fr;omega)
 have e2:=eq7 (w0:=w0) (a:=aq4 y S) (b:=aq4 y S) (by have:=C.to;omega) (by have:=C.to;omega)
 rw [decide_eq_true rfl] at e1 e2
 have hrow:∀ i (h:i<(adjS x y S).length),∀ z,Ret Tryz.prog w0 38 [ints (adjS x y S)[i],I z] (B (decide (z∈(adjS x y S)[i]))):=fun i h z=>by
  have:=fqd (w0:=w0) (l:=(adjS x y S)[i]) (x:=z) (by have:=har _ (List.getElem_mem h);omega)
  rwa [aqp.2 (gqd C h).1,Bool.true_and] at this
 have hrow2:∀ i (h:i<(adjS y x S).length),∀ z,Ret Tryz.prog w0 38 [ints (adjS y x S)[i],I z] (B (decide (z∈(adjS y x S)[i]))):=fun i h z=>by
  have:=fqd (w0:=w0) (l:=(adjS y x S)[i]) (x:=z) (by have:=har2 _ (List.getElem_mem h);omega)
  rwa [aqp.2 (gqd C.swap h).1,Bool.true_and] at this
 have hsym:∀ i k (hi:i<(adjS x y S).length) (hk:k<(adjS y x S).length),decide ((k:Int)∈(adjS x y S)[i])=decide ((i:Int)∈(adjS y x S)[k]):=fun i k hi hk=>by
  rw [decide_eq_decide];exact adjS_turn C hi hk
 obtain ⟨T,t1,t2,tl⟩:=turn_back C.set hsl
 have g5:=dq7 (w0:=w0) (s:=S.l) (path:=pa) (by omega) (by omega)
 rw [t1] at g5
 have g6:=dq7 (w0:=w0) (s:=T.l) (path:=pa) (by omega) (by omega)
 rw [t2] at g6
 have g7:=eq7 (w0:=w0) (a:=S.l) (b:=S.l) (by omega) (by omega)
 rw [decide_eq_true rfl] at g7
 have g21:=eq_false (show ¬(20:Int)<pa.length by omega)
 have g22:=eq_true (show ((bq0 pa).length:Int)=pa.length by omega)
 have hll':=eq_true (show ((adjS x y S).length:Int)=(adjS y x S).length by omega)
 clear C t1 t2 hm har har2
 generalize bq0 pa=sq at *
 generalize T.l=TL at *
 generalize S.l=SL at *
 generalize adjS x y S=A at *
 generalize adjS y x S=A' at *
 generalize aq4 x S=F at *
 generalize aq4 y S=G at *
 obtain ⟨t,n,a,b,l,xs⟩:=x
 obtain ⟨t',n',a',b',l',xs'⟩:=y
 simp only [mtA,mtC] at c1 c2 c3 g1 g2 ⊢
 refine aqf Tryz.func6 rfl Tryz.ntmps6 (ts:=[6]) rfl (by simp) (by kernel_rfl) ?_
 repeat'(with_reducible first|(refine aqd (hK _ _ ?_);clear hK K)|((fail_if_success(refine aql 1 ?_));(fail_if_success(refine(?_:AWP _ _ _ (Code.region 1 _ _) _ _ _)));refine vr [] fun K hK=>?_)|(refine aqa fun K' hK'=>?_;simp;repeat'(first|(apply hK';clear hK' K')|intro hg|fail))|((fail_if_success(refine aql 1 ?_));refine sp ?_)|fail)
 rename_i p hp q hq0 r
 obtain ⟨hqp,hq⟩:=bqu hq0
 obtain ⟨hrq,hrp,hr⟩:=kqd hg
 clear hg hq0
 obtain ⟨H2,hH2⟩:∃ H2,H2=upd (upd (upd H p (some (.box [I t,I n,I a,I b,rows l,.sl (mtCs xs) xs.length]))) q (some (.box [I t',I n',I a',I b',rows l',.sl (mtCs xs') xs'.length]))) r (some (.box [ints SL,ints pa])):=⟨_,rfl⟩
 have hsub:Sub H H2:=by rw [hH2];exact (((Sub.refl H).upd hp _).upd hq _).upd hr _
 have lp:H2 p=some (.box [I t,I n,I a,I b,rows l,.sl (mtCs xs) xs.length]):=by rw [hH2,aqn _ _ _ (Ne.symm hrp),aqn _ _ _ (Ne.symm hqp),aqj]
 have lq:H2 q=some (.box [I t',I n',I a',I b',rows l',.sl (mtCs xs') xs'.length]):=by rw [hH2,aqn _ _ _ (Ne.symm hrq),aqj]
 have lr:H2 r=some (.box [ints SL,ints pa]):=by rw [hH2,aqj]
 rw [<-hH2]
 clear hH2 hp hq hr hqp hrq hrp
 refine aq7 mixed [] [20,25,30,31,33,39,45,49] [0,1,2,3,4,5,6,7,8,9,10,11,12,13,14,15,16,17,18,19,20,21,22,23,24,25,26,27,28,31,32,33,29,30,34,35] (by kernel_rfl) (fun K hK=> ?_)
 simp only [List.filterMap_cons,List.filterMap_nil,List.getElem?_cons_succ,List.getElem?_cons_zero]
 repeat'(with_reducible first|(refine sp (hK _ _ ?_);clear hK K)|((first|refine aqb fun K' B hK' hB=>?_|refine aqm fun K' hK'=>?_|(apply cqh;refine aqx rfl fun K' hK'=>?_));simp[lp,lq,lr,g21,g22,boxes,Blk.isArr,aqg.refl];repeat'(first|((first|refine hK' ?_|refine hB ?_);clear hK' hB K' B)|(apply hK';clear hK' K')|(refine Ret.use cf ?_;try simp[lp,lq,lr,g21,g22,boxes,Blk.isArr,aqg.refl])|(refine Ret.use c1 ?_;try simp[lp,lq,lr,g21,g22,boxes,Blk.isArr,aqg.refl])|(refine Ret.use c2 ?_;try simp[lp,lq,lr,g21,g22,boxes,Blk.isArr,aqg.refl])|(refine Ret.use c3 ?_;try simp[lp,lq,lr,g21,g22,boxes,Blk.isArr,aqg.refl])|(refine Ret.use c4 ?_;try simp[lp,lq,lr,g21,g22,boxes,Blk.isArr,aqg.refl])|fail))|((fail_if_success(refine aql 3 ?_));refine sp ?_)|fail)
 repeat'(with_reducible first|(refine aqd (hK _ _ ?_);clear hK K)|refine vr [] fun K hK=>?_|((first|refine aqa fun K' hK'=>?_|refine aqb fun K' B hK' hB=>?_|(apply aqk;refine aqe rfl fun K' hK'=>?_));simp[lp,lq,lr,hll',rows];repeat'(first|((first|refine hK' ?_|refine hB ?_);clear hK' hB K' B)|(apply hK';clear hK' K')|refine Ret.use g1 ?_|refine Ret.use g2 ?_|refine Ret.use e1 ?_|refine Ret.use e2 ?_|fail))|refine sp ?_|fail)
 refine aqh (fun env h=>∃ i:Nat,i<=A.length/\h=H2/\env 15=I i/\env 7=rows A/\env 11=rows A'/\env 5= .ptr r 0 0) (fun env _=>A.length-natA (env 15)) ?_ ?_
 ·exact ⟨0,by omega,rfl,by simp,by simp [rows],by simp [rows],by simp⟩
 rintro env h ⟨i,hi,rfl,h15,h7,h11,h5⟩
 have hnat:natA (env 15)=i:=by simp [h15]
 rw [hnat];clear hnat
 by_cases gi:i<A.length
 ·repeat'(with_reducible first|(refine aqd (hK _ _ ?_);clear hK K)|refine vr [] fun K hK=>?_|((first|refine aqa fun K' hK'=>?_|refine aqb fun K' B hK' hB=>?_);simp[h15,h7,h11,h5,rows,gi];repeat'(first|((first|refine hK' ?_|refine hB ?_);clear hK' hB K' B)|(apply hK';clear hK' K')|fail))|refine sp ?_|fail)
  refine aqh (fun env h'=>∃ k:Nat,k<=A'.length/\h'=h/\env 16=I k/\env 15=I i/\env 7=rows A/\env 11=rows A'/\env 5= .ptr r 0 0) (fun env _=>A'.length-natA (env 16)) ?_ ?_
  ·exact ⟨0,by omega,rfl,by simp,by simp [h15],by simp [h7,rows],by simp [h11,rows],by simp [h5]⟩
  clear h15 h7 h11 h5 env
  rintro env h' ⟨k,hk,rfl,h16,h15,h7,h11,h5⟩
  have hnat:natA (env 16)=k:=by simp [h16]
  rw [hnat];clear hnat
  by_cases gk:k<A'.length
  ·have d1:=hrow i gi k
   have d2:=hrow2 k gk i
   rw [hsym i k gi gk] at d1
   have e1:∀ h:i<A.length,A[i]'h=A[i]'gi:=fun _=>rfl
   have e2:∀ h:k<A'.length,A'[k]'h=A'[k]'gk:=fun _=>rfl
   generalize decide ((i:Int)∈A'[k])=v at *
   generalize A[i]=a1 at *
   generalize A'[k]=a2 at *
   repeat'(with_reducible first|(refine aqd (hK _ _ ?_);clear hK K)|((fail_if_success(refine aql 13 ?_));(fail_if_success(refine(?_:AWP _ _ _ (Code.region 13 _ _) _ _ _)));refine vr [] fun K hK=>?_)|((first|refine aqa fun K' hK'=>?_|refine aqb fun K' B hK' hB=>?_);simp[h16,h15,h7,h11,h5,rows,gk];repeat'(first|((first|refine hK' ?_|refine hB ?_);clear hK' hB K' B)|(apply hK';clear hK' K')|fail))|((fail_if_success(refine aql 13 ?_));refine sp ?_)|fail)
   refine aq7 mixed [] [113,114,119,120] [0,1,2,3,4,6,7,8,9,10,5,11,12] (by kernel_rfl) (fun K hK=> ?_)
   simp only [List.filterMap_cons,List.filterMap_nil,List.getElem?_cons_succ,List.getElem?_cons_zero]
   repeat'(with_reducible first|(refine sp (hK _ _ ?_);clear hK K)|refine vr [] fun K hK=>?_|((first|refine aqa fun K' hK'=>?_|refine aqb fun K' B hK' hB=>?_|refine aqm fun K' hK'=>?_);simp[h16,h15,h7,h11,h5,rows,gk,gi,e1,e2,boxes,Blk.isArr,aqg.refl];repeat'(first|((first|refine hK' ?_|refine hB ?_);clear hK' hB K' B)|(apply hK';clear hK' K')|(refine Ret.use d1 ?_;try simp[h16,h15,h7,h11,h5,rows,gk,gi,e1,e2,boxes,Blk.isArr,aqg.refl])|(refine Ret.use d2 ?_;try simp[h16,h15,h7,h11,h5,rows,gk,gi,e1,e2,boxes,Blk.isArr,aqg.refl])|refine And.intro ?_ ?_|(clear hK' K';omega)))|refine sp ?_|fail)
   exact ⟨⟨k+1,by omega,rfl,by simp,by simp [h15],by simp [h7,rows],by simp [h11,rows],by simp [h5]⟩,by simp;omega⟩
  ·obtain rfl:k=A'.length:=by omega
   repeat'(with_reducible first|(refine aqd (hK _ _ ?_);clear hK K)|refine vr [] fun K hK=>?_|((first|refine aqa fun K' hK'=>?_|refine aqb fun K' B hK' hB=>?_);simp[h16,h15,h7,h11,h5,rows,gk];repeat'(first|((first|refine hK' ?_|refine hB ?_);clear hK' hB K' B)|(apply hK';clear hK' K')|refine And.intro ?_ ?_|(clear hK' K';omega)))|refine sp ?_|fail)
   exact ⟨⟨i+1,by omega,rfl,by simp,by simp [h7,rows],by simp [h11,rows],by simp [h5]⟩,by simp;omega⟩
 ·obtain rfl:i=A.length:=by omega
  repeat'(with_reducible first|(refine aqd (hK _ _ ?_);clear hK K)|((fail_if_success(refine aql 15 ?_));(fail_if_success(refine(?_:AWP _ _ _ (Code.region 15 _ _) _ _ _)));refine vr [] fun K hK=>?_)|((first|refine aqa fun K' hK'=>?_|refine aqb fun K' B hK' hB=>?_);simp[h15,h7,h11,h5,rows,gi];repeat'(first|((first|refine hK' ?_|refine hB ?_);clear hK' hB K' B)|(apply hK';clear hK' K')|fail))|((fail_if_success(refine aql 15 ?_));refine sp ?_)|fail)
  refine aq7 mixed [] [125,127,130,133] [0,1,2,3,5,6,8,9,4,7,10,11] (by kernel_rfl) (fun K hK=> ?_)
  simp only [List.filterMap_cons,List.filterMap_nil,List.getElem?_cons_succ,List.getElem?_cons_zero]
  repeat'(with_reducible first|(refine sp (hK _ _ ?_);clear hK K)|(refine aqm fun K' hK'=>?_;simp[h15,h7,h11,h5,lr,boxes,Blk.isArr,aqg.refl];repeat'(first|(apply hK';clear hK' K')|(refine Ret.use g5 ?_;try simp[h15,h7,h11,h5,lr,boxes,Blk.isArr,aqg.refl])|(refine Ret.use g6 ?_;try simp[h15,h7,h11,h5,lr,boxes,Blk.isArr,aqg.refl])|(refine Ret.use g7 ?_;try simp[h15,h7,h11,h5,lr,boxes,Blk.isArr,aqg.refl])|fail))|apply aqc|refine sp ?_|fail)
  exact ⟨by simp,hsub⟩
end Go.Am
