/- Contracts and plain laws that the law SwapStuckG needs, part 14. -/
import Derived.Test.YtcdcombogmflkaaGreatDoorZSwapStuckG13
import Derived.LaidLaws
import Derived.LaidHandle
import Derived.Stop.Joined
namespace Go.Am
open Go Go.RowKit Go.ChangeShapes Go.WideShapes Go.Deep
set_option linter.unusedVariables false
section
variable {P : Program} (h : ∃ r, behindMainWord (wordsSigns P.initOrder.toList) = "cut".toList :: r)
include h
theorem dqj (h1:P.laysLater=false) (h2:P.bearsReflect=false)
  (h3 : (P.doorRows.any fun n => ["(look 8)", "(look 8, test files too)", "(list 7)", "(look 7)"].any (endsIn · n)) = false) : P.mayEnter = true := by
 obtain ⟨r,h⟩:=h
 unfold Program.mayEnter Program.doorFits
 rw [h,h1,h2]
 simp only [strip_cut]
 have e1 : ("cut".toList == "gc".toList) = false := by decide +kernel
 have e2 : ("cut".toList == "spec".toList) = false := by decide +kernel
 have e3 : ("cut".toList == "carried".toList) = false := by decide +kernel
 simp only [e1,e2,e3,Bool.false_or,Bool.false_and,h3]
 simp
end
def jq6 (ws:List (List Char)):Option (Bool×List Char):=
 match ws with
 | h :: s :: _ => if !isSumSigns s then none else if h == "harness".toList then some (true, s) else if h == "ownmain".toList then some (false, s) else none
 | _=>none
theorem mainIs_signs (P:Program):P.mainIs=jq6 (wordsSigns P.initOrder.toList):=by
 unfold Program.mainIs jq6
 generalize wordsSigns P.initOrder.toList=ws
 rcases ws with _ | ⟨h,_ | ⟨s,r⟩⟩<;>rfl
theorem hqo {P:Program} {har:String} {l lh:List Char} (h:P.initOrder=String.ofList l) (h2:har=String.ofList lh) (k:jq6 (wordsSigns l)=some (true,lh)):P.mainIs=some (true,har.toList):=by
 rw [mainIs_signs,h,h2,String.toList_ofList,String.toList_ofList]
 exact k
section
variable {H:Type} {enc:TypeId×Value->H}
theorem jqc {C:Checked} {laid:List (String×DataW Unit)} {spec:ChangeSpec} {n:FuncId} {fn:Func} {ts:List TypeId} {rt:TypeId} {dom:List PathCond} {os:Os} (own:ownKnob C.prog.godebug=none) (started:os.Started)
  (noInit:C.prog.inits.idxOf? n=none) (hfn:C.prog.funcs[n]? =some fn) (hp:fn.params.toList=ts) (hr:fn.resultTypes= #[rt]) (hu:C.prog.underlying rt=some .bool)
  (hvars:spec.vars=[]) (hspec:∀ ds:List (DataW H),ds.length=ts.length->spec.fn H ds={ results:=[.lit (.bool true)],args:=ds })
  (hl:laidOutB C.prog=true) (hread:(ts.all fun t=>C.prog.readableRec t&&decide (t<C.prog.types.size))=true)
  (witness:∃ (w:World) (tape:Tape) (i:Input),w.os=os/\(w.forCall tape i).Shaped C.prog/\i.vars=[]/\Input.okWide C.prog (w.forCall tape i) .any w.heap.size n i/\
   ((spec.pre enc C.prog fn dom false (w.forCall tape i).memory i.args/\laidMetH C.prog laid (w.forCall tape i).memory)/\sizedMet enc C.prog fn (OpenSpec.ofChange spec) false (w.forCall tape i).memory i.args)/\({}:Assume).holds C.prog (lone (Frame.enter C.prog n i.args .normal) [] (w.forCall tape i)))
  (walk:Walks H enc C.prog n ts):ReturnsInHanded {} C os n .any (fun w args=>(spec.pre enc C.prog fn dom false w args/\laidMetH C.prog laid w)/\sizedMet enc C.prog fn (OpenSpec.ofChange spec) false w args) (spec.post enc C.prog fn false true false false):=by
 refine returnsInHanded_of_change_and (C:=C) (X:=fun w _=>laidMetH C.prog laid w) (fun _ _ _ hh h=>h.of_heap hh) own started noInit hfn witness ?_
 intro W base args ds gs before hval hW hcnd hsz _ _
 have hW':=hW
 obtain ⟨p,q,hA,hV,rfl,hfz,hnd⟩:=hW
 rw [hvars] at hV
 obtain ⟨rfl,rfl⟩:=trodVars_none hV
 rw [hp] at hA
 have hlen:ds.length=ts.length:=by
  have:∀ (ts:List TypeId) (vs:List Value) (ds:List (DataW H)) (ps:List MemPlace),DataW.TrodAll enc C.prog W 0 (fun _=>true) true ts vs ds ps->ds.length=ts.length:=by
   intro ts
   induction ts with
   | nil=>intro vs ds ps h;obtain ⟨_,rfl,_⟩:=trodAll_nil h;rfl
   | cons t ts ih=>
    intro vs ds ps h
    obtain ⟨v,vs',d,ds',p,q,rfl,rfl,rfl,h1,h2⟩:=trodAll_cons h
    simp [ih _ _ _ h2]
  exact this _ _ _ _ hA
 have hpts:∀ (j:Nat) (t:TypeId),ts[j]? =some t->fn.params[j]? =some t:=by
  intro j t h;rw [<-hp] at h;simpa using h
 have hz:∀ n∈DataW.weightsEach C.prog ts ds,n<=reachBytes:=by
  have e:spec.plain.varTypes C.prog=[]:=by simp [ChangeSpec.plain,DataSpec.varTypes,hvars]
  rw [e,List.append_nil,List.append_nil,hp] at hsz
  intro n hn
  have:=List.all_eq_true.1 hsz n hn
  simpa using this
 obtain ⟨avs,hvr,hc⟩:=walk W base args ds p hA (fun j t v h1 h2=>hval j t v (hpts j t h1) h2) hz
 refine (law_closes hc hvr).mono ?_
 rintro e W' ⟨rfl,bel⟩
 refine ⟨.bool true,rfl,ds,[],p++[],[],p,[],hW',?_,?_,?_,bel.frame _,fun h=>by cases h⟩
 ·rw [List.append_nil,hspec ds hlen,hr]
  exact trodAll_mk1 (shut_bool hu _)
 ·rw [List.append_nil,hspec ds hlen,hp]
  refine iqp hl bel ts _ _ _ (fun t ht=> ?_) hA
  have:=List.all_eq_true.1 hread t ht
  simpa using this
 ·rw [List.append_nil,hspec ds hlen,hvars]
  simp [DataW.TrodVars]
end
end Go.Am
namespace Go.Am
open Go Go.Proofs
set_option linter.unusedVariables false
set_option linter.unusedSimpArgs false
variable {w0:World}
attribute [local irreducible] AWP aqn
attribute [local congr] aqq
theorem jqg {x y:Mtd} {S:FS} (C:Com x y S) {i:Nat} (h:i<(adjS x y S).length):aq2 (adjS x y S)[i]/\(adjS x y S)[i]=out (adjS x y S) i:=by
 refine ⟨((kqj C).pts _ (List.getElem_mem h)).set,?_⟩
 rw [out_eq (by simpa using h)];simp
theorem adjS_turn {x y:Mtd} {S:FS} (C:Com x y S) {i k:Nat} (hi:i<(adjS x y S).length) (hk:k<(adjS y x S).length):(k:Int)∈(adjS x y S)[i]↔(i:Int)∈(adjS y x S)[k]:=by
 have l1:=cq8 C
 have l2:=cq8 C.swap
 have hn:=C.n64
 have hnn:=C.nn
 rw [(jqg C hi).2,(jqg C.swap hk).2,fq8 C (by omega),fq8 C.swap (by omega)]
 constructor
 ·rintro ⟨_,h | h⟩
  ·exact ⟨by omega,.inr ⟨h.1,h.2.1,h.2.2⟩⟩
  ·exact ⟨by omega,.inl ⟨h.1,h.2.1,h.2.2⟩⟩
 ·rintro ⟨_,h | h⟩
  ·exact ⟨by omega,.inr ⟨h.1,h.2.1,h.2.2⟩⟩
  ·exact ⟨by omega,.inl ⟨h.1,h.2.1,h.2.2⟩⟩
set_option maxRecDepth 20000 in
set_option maxHeartbeats 4000000 in
theorem swapSame_ret {x:Mtd} {s:List Int} (hx:LenM x) (hs:s.length<=17592186044416):Ret Tryz.prog w0 8 [mtA x,ints s] (B true):=by
 have cf:=eq9 (w0:=w0)
 have c1:=fqa (w0:=w0) x hx 8
 intro H
 cases h1:fewR x 8 with
 | false=>
  rw [h1] at c1
  obtain ⟨t,n,a,b,l,xs⟩:=x
  simp only [mtA,mtC] at c1 ⊢
  refine aqf Tryz.func8 rfl Tryz.ntmps8 (ts:=[4]) rfl (by simp) (by kernel_rfl) ?_
  repeat'(with_reducible first|(refine aqd (hK _ _ ?_);clear hK K)|refine vr [] fun K hK=>?_|((first|refine aqa fun K' hK'=>?_|refine aqb fun K' B hK' hB=>?_|(apply aqj;refine aqe rfl fun K' hK'=>?_));simp;repeat'(first|((first|refine hK' ?_|refine hB ?_);clear hK' hB K' B)|(apply hK';clear hK' K')|refine Ret.use cf ?_|refine Ret.use c1 ?_|intro hg|fail))|apply aqc|refine sp ?_|fail)
  exact ⟨by simp,aqh (by assumption)⟩
 | true=>
 have nx:=Nice.of hx h1
 rw [h1] at c1
 have c3:=cqo (w0:=w0) nx (s:=s) (by omega)
 cases hm:indT x s with
 | false=>
  rw [hm] at c3
  obtain ⟨t,n,a,b,l,xs⟩:=x
  simp only [mtA,mtC] at c1 c3 ⊢
  refine aqf Tryz.func8 rfl Tryz.ntmps8 (ts:=[4]) rfl (by simp) (by kernel_rfl) ?_
  repeat'(with_reducible first|(refine aqd (hK _ _ ?_);clear hK K)|refine vr [] fun K hK=>?_|((first|refine aqa fun K' hK'=>?_|refine aqb fun K' B hK' hB=>?_|(apply aqj;refine aqe rfl fun K' hK'=>?_));simp;repeat'(first|((first|refine hK' ?_|refine hB ?_);clear hK' hB K' B)|(apply hK';clear hK' K')|refine Ret.use cf ?_|refine Ret.use c1 ?_|refine Ret.use c3 ?_|intro hg|fail))|apply aqc|refine sp ?_|fail)
  exact ⟨by simp,aqh (by assumption)⟩
 | true=>
 rw [hm] at c3
 obtain ⟨ok,S,rfl,hsub,hI⟩:=(mqz nx).1 hm
 have C:Com x x S:=⟨ok,ok,rfl,hsub,hI,hI⟩
 have g1:=dqs (w0:=w0) C
 have hsl:=C.slen
 have hal:=C.alen
 have har:=C.arow
 have hn:=C.n64
 have hfl:=C.fr
 have g2:=iq7 (w0:=w0) (a:=aq5 x S) (b:=aq5 x S) (by omega) (by omega)
 rw [decide_eq_true rfl] at g2
 have hrow:∀ i (h:i<(adjS x x S).length),∀ z,Ret Tryz.prog w0 38 [ints (adjS x x S)[i],I z] (B (decide (z∈(adjS x x S)[i]))):=fun i h z=>by
  have:=hqq (w0:=w0) (l:=(adjS x x S)[i]) (x:=z) (by have:=har _ (List.getElem_mem h);omega)
  rwa [aqp.2 (jqg C h).1,Bool.true_and] at this
 have hsym:∀ i k (hi:i<(adjS x x S).length) (hk:k<(adjS x x S).length),decide ((k:Int)∈(adjS x x S)[i])=decide ((i:Int)∈(adjS x x S)[k]):=fun i k hi hk=>by
  rw [decide_eq_decide];exact adjS_turn C hi hk
 have g5:Ret Tryz.prog w0 35 [I x.n] (ints (FS.upTo x.n.toNat).l):=by
  have:=jqf (w0:=w0) (n:=x.n)
  rwa [allL,if_pos (by omega)] at this
 have hUl:(FS.upTo x.n.toNat).l.length=x.n.toNat:=FS.card_upTo _
 have g7:=iqo (w0:=w0) nx (s:=(FS.upTo x.n.toNat).l) (by omega)
 rw [rankT,(dq7 nx).2 ⟨ok,_,rfl,FS.sub_refl _⟩,if_pos rfl,bqu] at g7
 have hiff:(0<(aq5 x S).length)=((S.l.length:Int)<(rkM x (FS.upTo x.n.toNat):Nat)):=by
  have key:=adds_iff C.r1 hI hsub
  have h2:(∃ z,z∈FS.upTo x.n.toNat/\z∉S/\Rk.Ind (rkM x) (insert z S))↔0<(aq5 x S).length:=by
   rw [List.length_pos_iff_exists_mem]
   constructor
   ·rintro ⟨z,hz,a,b⟩
    rw [FS.mem_upTo] at hz
    exact ⟨z,(dq3 hn.1).2 ⟨by omega,a,b⟩⟩
   ·rintro ⟨z,hz⟩
    have:=(dq3 hn.1).1 hz
    exact ⟨z,by rw [FS.mem_upTo];omega,this.2⟩
  rw [<-propext h2,propext key]
  have:S.l.length=S.card:=rfl
  exact propext ⟨fun h=>by omega,fun h=>by omega⟩
 have hrk:rkM x (FS.upTo x.n.toNat)<=64:=by have:=C.r1.le_card (FS.upTo x.n.toNat);rw [FS.card_upTo] at this;omega
 clear C hsub hI hm har
 generalize adjS x x S=A at *
 generalize aq5 x S=F at *
 generalize (FS.upTo x.n.toNat).l=U at *
 generalize rkM x (FS.upTo x.n.toNat)=rk at *
 obtain ⟨t,n,a,b,l,xs⟩:=x
 have hnn:(Mtd.mk t n a b l xs).n=n:=rfl
 rw [hnn] at hal hn g5 hUl
 have hal':=eq_true hal
 simp only [mtA,mtC] at c1 c3 g1 g7 ⊢
 refine aqf Tryz.func8 rfl Tryz.ntmps8 (ts:=[4]) rfl (by simp) (by kernel_rfl) ?_
 repeat'(with_reducible first|(refine aqd (hK _ _ ?_);clear hK K)|((fail_if_success(refine aql 1 ?_));(fail_if_success(refine(?_:AWP _ _ _ (Code.region 1 _ _) _ _ _)));refine vr [] fun K hK=>?_)|(refine aqa fun K' hK'=>?_;simp;repeat'(first|(apply hK';clear hK' K')|intro hg|fail))|((fail_if_success(refine aql 1 ?_));refine sp ?_)|fail)
 rename_i p
 have hp:H p=none:=hg
 have hH:=aqh (k:=some (.box [I t,I n,I a,I b,rows l,.sl (mtCs xs) xs.length])) hp
 have lp:upd H p (some (.box [I t,I n,I a,I b,rows l,.sl (mtCs xs) xs.length])) p=some (.box [I t,I n,I a,I b,rows l,.sl (mtCs xs) xs.length]):=aqk _ _ _
 generalize upd H p _=H2 at *
 repeat'(with_reducible first|(refine aqd (hK _ _ ?_);clear hK K)|refine vr [] fun K hK=>?_|((first|refine aqa fun K' hK'=>?_|refine aqb fun K' B hK' hB=>?_|(apply aqj;refine aqe rfl fun K' hK'=>?_));simp[lp,hal',rows];repeat'(first|((first|refine hK' ?_|refine hB ?_);clear hK' hB K' B)|(apply hK';clear hK' K')|refine Ret.use cf ?_|refine Ret.use c1 ?_|refine Ret.use c3 ?_|refine Ret.use g1 ?_|refine Ret.use g2 ?_|fail))|refine sp ?_|fail)
 refine aqi (fun env h=>∃ i:Nat,i<=A.length/\h=H2/\env 9=I i/\env 5=rows A/\env 6=ints F/\env 1=ints S.l/\env 2= .ptr p 0 0) (fun env _=>A.length-natA (env 9)) ?_ ?_
 ·exact ⟨0,by omega,rfl,by simp,by simp [rows],by simp,by simp,by simp⟩
 rintro env h ⟨i,hi,rfl,h9,h5,h6,h1',h2⟩
 have hnat:natA (env 9)=i:=by simp [h9]
 rw [hnat];clear hnat
 by_cases gi:i<A.length
 ·repeat'(with_reducible first|(refine aqd (hK _ _ ?_);clear hK K)|refine vr [] fun K hK=>?_|((first|refine aqa fun K' hK'=>?_|refine aqb fun K' B hK' hB=>?_);simp[h9,h5,h6,h1',h2,rows,gi];repeat'(first|((first|refine hK' ?_|refine hB ?_);clear hK' hB K' B)|(apply hK';clear hK' K')|fail))|refine sp ?_|fail)
  refine aqi (fun env h'=>∃ k:Nat,k<=A.length/\h'=h/\env 10=I k/\env 9=I i/\env 5=rows A/\env 6=ints F/\env 1=ints S.l/\env 2= .ptr p 0 0) (fun env _=>A.length-natA (env 10)) ?_ ?_
  ·exact ⟨0,by omega,rfl,by simp,by simp [h9],by simp [h5,rows],by simp [h6],by simp [h1'],by simp [h2]⟩
  clear h9 h5 h6 h1' h2 env
  rintro env h' ⟨k,hk,rfl,h10,h9,h5,h6,h1',h2⟩
  have hnat:natA (env 10)=k:=by simp [h10]
  rw [hnat];clear hnat
  by_cases gk:k<A.length
  ·have d1:=hrow i gi k
   have d2:=hrow k gk i
   rw [hsym i k gi gk] at d1
   have e1:∀ h:i<A.length,A[i]'h=A[i]'gi:=fun _=>rfl
   have e2:∀ h:k<A.length,A[k]'h=A[k]'gk:=fun _=>rfl
   generalize decide ((i:Int)∈A[k])=v at *
   generalize A[i]=a1 at *
   generalize A[k]=a2 at *
   repeat'(with_reducible first|(refine aqd (hK _ _ ?_);clear hK K)|((fail_if_success(refine aql 12 ?_));(fail_if_success(refine(?_:AWP _ _ _ (Code.region 12 _ _) _ _ _)));refine vr [] fun K hK=>?_)|((first|refine aqa fun K' hK'=>?_|refine aqb fun K' B hK' hB=>?_);simp[h10,h9,h5,h6,h1',h2,rows,gk];repeat'(first|((first|refine hK' ?_|refine hB ?_);clear hK' hB K' B)|(apply hK';clear hK' K')|fail))|((fail_if_success(refine aql 12 ?_));refine sp ?_)|fail)
   refine bqk mixed [] [63,64,69,70] [0,1,2,3,4,6,7,8,9,10,5,11,12] (by kernel_rfl) (fun K hK=> ?_)
   simp only [List.filterMap_cons,List.filterMap_nil,List.getElem?_cons_succ,List.getElem?_cons_zero]
   repeat'(with_reducible first|(refine sp (hK _ _ ?_);clear hK K)|refine vr [] fun K hK=>?_|((first|refine aqa fun K' hK'=>?_|refine aqb fun K' B hK' hB=>?_|refine aqm fun K' hK'=>?_);simp[h10,h9,h5,h6,h1',h2,rows,gk,gi,e1,e2,boxes,Blk.isArr,aqg.refl];repeat'(first|((first|refine hK' ?_|refine hB ?_);clear hK' hB K' B)|(apply hK';clear hK' K')|(refine Ret.use d1 ?_;try simp[h10,h9,h5,h6,h1',h2,rows,gk,gi,e1,e2,boxes,Blk.isArr,aqg.refl])|(refine Ret.use d2 ?_;try simp[h10,h9,h5,h6,h1',h2,rows,gk,gi,e1,e2,boxes,Blk.isArr,aqg.refl])|refine And.intro ?_ ?_|(clear hK' K';omega)))|refine sp ?_|fail)
   exact ⟨⟨k+1,by omega,rfl,by simp,by simp [h9],by simp [h5,rows],by simp [h6],by simp [h1'],by simp [h2]⟩,by simp;omega⟩
  ·obtain rfl:k=A.length:=by omega
   repeat'(with_reducible first|(refine aqd (hK _ _ ?_);clear hK K)|refine vr [] fun K hK=>?_|((first|refine aqa fun K' hK'=>?_|refine aqb fun K' B hK' hB=>?_);simp[h10,h9,h5,h6,h1',h2,rows,gk];repeat'(first|((first|refine hK' ?_|refine hB ?_);clear hK' hB K' B)|(apply hK';clear hK' K')|refine And.intro ?_ ?_|(clear hK' K';omega)))|refine sp ?_|fail)
   exact ⟨⟨i+1,by omega,rfl,by simp,by simp [h5,rows],by simp [h6],by simp [h1'],by simp [h2]⟩,by simp;omega⟩
 ·obtain rfl:i=A.length:=by omega
  repeat'(with_reducible first|(refine aqd (hK _ _ ?_);clear hK K)|((fail_if_success(refine aql 14 ?_));(fail_if_success(refine(?_:AWP _ _ _ (Code.region 14 _ _) _ _ _)));refine vr [] fun K hK=>?_)|((first|refine aqa fun K' hK'=>?_|refine aqb fun K' B hK' hB=>?_);simp[h9,h5,h6,h1',h2,rows,gi];repeat'(first|((first|refine hK' ?_|refine hB ?_);clear hK' hB K' B)|(apply hK';clear hK' K')|fail))|((fail_if_success(refine aql 14 ?_));refine sp ?_)|fail)
  refine bqk mixed [] [79,81] [0,1,2,3,4,5,6,7,8,9,10,11,12] (by kernel_rfl) (fun K hK=> ?_)
  simp only [List.filterMap_cons,List.filterMap_nil,List.getElem?_cons_succ,List.getElem?_cons_zero]
  by_cases gf:0<F.length
  ·have gf2:(S.l.length:Int)<rk:=by rw [<-hiff];exact gf
   repeat'(with_reducible first|(refine sp (hK _ _ ?_);clear hK K)|(refine aqm fun K' hK'=>?_;simp[h9,h5,h6,h1',h2,lp,gf,gf2,boxes,Blk.isArr,aqg.refl];repeat'(first|(apply hK';clear hK' K')|(refine Ret.use g5 ?_;try simp[h9,h5,h6,h1',h2,lp,gf,gf2,boxes,Blk.isArr,aqg.refl])|(refine Ret.use g7 ?_;try simp[h9,h5,h6,h1',h2,lp,gf,gf2,boxes,Blk.isArr,aqg.refl])|fail))|apply aqc|refine sp ?_|fail)
   exact ⟨by simp,hH⟩
  ·have gf2:¬(S.l.length:Int)<rk:=by rw [<-hiff];exact gf
   repeat'(with_reducible first|(refine sp (hK _ _ ?_);clear hK K)|(refine aqm fun K' hK'=>?_;simp[h9,h5,h6,h1',h2,lp,gf,gf2,boxes,Blk.isArr,aqg.refl];repeat'(first|(apply hK';clear hK' K')|(refine Ret.use g5 ?_;try simp[h9,h5,h6,h1',h2,lp,gf,gf2,boxes,Blk.isArr,aqg.refl])|(refine Ret.use g7 ?_;try simp[h9,h5,h6,h1',h2,lp,gf,gf2,boxes,Blk.isArr,aqg.refl])|fail))|apply aqc|refine sp ?_|fail)
   exact ⟨by simp,hH⟩
end Go.Am
namespace Go.Am
open Go Go.Proofs
set_option linter.unusedVariables false
set_option linter.unusedSimpArgs false
variable {w0:World}
attribute [local irreducible] AWP aqn
attribute [local congr] aqq
set_option maxRecDepth 20000 in
set_option maxHeartbeats 4000000 in
theorem swapNone_ret {x y:Mtd} {s:List Int} (hx:LenM x) (hy:LenM y) (hs:s.length<=17592186044416):Ret Tryz.prog w0 7 [mtA x,mtA y,ints s] (B true):=by
 have cf:=eq9 (w0:=w0)
 have c1:=fqa (w0:=w0) x hx 8
 have c2:=fqa (w0:=w0) y hy 8
 have c4:=bqi (w0:=w0) (l:=s) (by omega)
 intro H
 have hcase:(fewR x 8=false\/fewR x 8=true/\fewR y 8=false)\/fewR x 8=true/\fewR y 8=true:=by
  cases fewR x 8<;>cases fewR y 8<;>simp
 rcases hcase with (h1 | ⟨h1,h2⟩) | ⟨h1,h2⟩
 rotate_right
 rotate_left
 iterate 2
  rw [h1] at c1
  try rw [h2] at c2
  obtain ⟨t,n,a,b,l,xs⟩:=x
  obtain ⟨t',n',a',b',l',xs'⟩:=y
  simp only [mtA,mtC] at c1 c2 ⊢
  refine aqf Tryz.func7 rfl Tryz.ntmps7 (ts:=[6]) rfl (by simp) (by kernel_rfl) ?_
  repeat'(with_reducible first|(refine aqd (hK _ _ ?_);clear hK K)|((fail_if_success(refine aql 1 ?_));(fail_if_success(refine(?_:AWP _ _ _ (Code.region 1 _ _) _ _ _)));refine vr [] fun K hK=>?_)|(refine aqa fun K' hK'=>?_;simp;repeat'(first|(apply hK';clear hK' K')|intro hg|fail))|((fail_if_success(refine aql 1 ?_));refine sp ?_)|fail)
  rename_i p hp q
  obtain ⟨hqp,hq⟩:=bq3 hg
  have hpq:p≠q:=Ne.symm hqp
  have hsub:=((Sub.refl H).upd hp (some (.box [I t,I n,I a,I b,rows l,.sl (mtCs xs) xs.length]))).upd hq (some (.box [I t',I n',I a',I b',rows l',.sl (mtCs xs') xs'.length]))
  repeat'(with_reducible first|(refine aqd (hK _ _ ?_);clear hK K)|refine vr [] fun K hK=>?_|((first|refine aqa fun K' hK'=>?_|refine aqb fun K' B hK' hB=>?_|(apply aqj;refine aqe rfl fun K' hK'=>?_));simp[hqp,hpq];repeat'(first|((first|refine hK' ?_|refine hB ?_);clear hK' hB K' B)|(apply hK';clear hK' K')|refine Ret.use cf ?_|refine Ret.use c1 ?_|refine Ret.use c2 ?_|fail))|apply aqc|refine sp ?_|fail)
  exact ⟨by simp,hsub⟩
 have nx:=Nice.of hx h1
 have ny:=Nice.of hy h2
 rw [h1] at c1
 rw [h2] at c2
 have c3:=kqo (w0:=w0) nx ny (s:=[]) (by simp)
 have hcase:(mayS x y []=false\/mayS x y []=true/\20<s.length\/mayS x y []=true/\¬20<s.length/\aqt (-1) s=false)\/mayS x y []=true/\¬20<s.length/\aqt (-1) s=true:=by
  cases mayS x y []<;>cases aqt (-1) s<;>by_cases h:20<s.length<;>simp [h]
 rcases hcase with (hm | ⟨hm,g20⟩ | ⟨hm,g20,hr⟩) | ⟨hm,g20,hr⟩
 rotate_right
 rotate_left
 iterate 3
  rw [hm] at c3
  try rw [hr] at c4
  obtain ⟨t,n,a,b,l,xs⟩:=x
  obtain ⟨t',n',a',b',l',xs'⟩:=y
  simp only [mtA,mtC,ints,List.map_nil,List.length_nil] at c1 c2 c3 c4 ⊢
  refine aqf Tryz.func7 rfl Tryz.ntmps7 (ts:=[6]) rfl (by simp) (by kernel_rfl) ?_
  repeat'(with_reducible first|(refine aqd (hK _ _ ?_);clear hK K)|((fail_if_success(refine aql 1 ?_));(fail_if_success(refine(?_:AWP _ _ _ (Code.region 1 _ _) _ _ _)));refine vr [] fun K hK=>?_)|(refine aqa fun K' hK'=>?_;simp;repeat'(first|(apply hK';clear hK' K')|intro hg|fail))|((fail_if_success(refine aql 1 ?_));refine sp ?_)|fail)
  rename_i p hp q
  obtain ⟨hqp,hq⟩:=bq3 hg
  have hpq:p≠q:=Ne.symm hqp
  have hsub:=((Sub.refl H).upd hp (some (.box [I t,I n,I a,I b,rows l,.sl (mtCs xs) xs.length]))).upd hq (some (.box [I t',I n',I a',I b',rows l',.sl (mtCs xs') xs'.length]))
  first | have g21:=eq_true (show (20:Int)<s.length by omega) | have g21:=eq_false (show ¬(20:Int)<s.length by omega) | have g21:True:=trivial
  repeat'(with_reducible first|(refine aqd (hK _ _ ?_);clear hK K)|refine vr [] fun K hK=>?_|((first|refine aqa fun K' hK'=>?_|refine aqb fun K' B hK' hB=>?_|(apply aqj;refine aqe rfl fun K' hK'=>?_));simp[hqp,hpq,g21];repeat'(first|((first|refine hK' ?_|refine hB ?_);clear hK' hB K' B)|(apply hK';clear hK' K')|refine Ret.use cf ?_|refine Ret.use c1 ?_|refine Ret.use c2 ?_|refine Ret.use c3 ?_|refine Ret.use c4 ?_|fail))|apply aqc|refine sp ?_|fail)
  exact ⟨by simp,hsub⟩
 rw [hm] at c3
 rw [hr] at c4
 obtain ⟨S,hSe,C⟩:=com_of nx ny hm
 have hS0:S= ∅ :=FS.ext fun z=>by
  rw [FS.mem_def,<-hSe];simp
 have g1:=dqs (w0:=w0) C
 rw [<-hSe] at g1
 have hal:=C.alen
 have hn:=C.n64
 have hset:=aqp.1 hr
 obtain ⟨T,rfl⟩:∃ T:FS,s=T.l:=⟨⟨s,hset.up⟩,rfl⟩
 have hok:∀ z∈T.l,0<=z/\z<=1099511627776:=hset.ok
 have g2:=fq0 (w0:=w0) (s:=[]) (path:=T.l) (by simp) (by omega)
 have e0:kqp [] T.l=T.l:=by
  have:=mqa (S:= ∅) (p:=T.l) ⟨by exact List.Pairwise.nil,by intro z hz;cases hz⟩ T.nodup hok
  rw [show kqp [] T.l=kqp (∅ :FS).l T.l from rfl,this,fqh,bqu,turn_none]
 rw [e0] at g2
 have g3:=fq0 (w0:=w0) (s:=T.l) (path:=T.l) (by omega) (by omega)
 have e1:kqp T.l T.l=[]:=by
  rw [mqa hset T.nodup hok,fqh,bqu,turn_self];rfl
 rw [e1] at g3
 have g4:=iq7 (w0:=w0) (a:=T.l) (b:=T.l) (by omega) (by omega)
 rw [decide_eq_true rfl] at g4
 have hempty:∀ i (h:i<(adjS x y S).length),(adjS x y S)[i]=[]:=fun i h=>by
  have hl:=cq8 C
  rw [(jqg C h).2]
  refine List.eq_nil_iff_forall_not_mem.2 fun z hz=> ?_
  rw [fq8 C (by omega),hS0] at hz
  rcases hz.2 with k | k
  ·simpa using k.1
  ·simpa using k.1
 have hfr:∀ z:Nat,(z:Int)<x.n->Ret Tryz.prog w0 38 [ints (aq5 x S),I z] (B (indT x [(z:Int)]))/\Ret Tryz.prog w0 38 [ints (aq5 y S),I z] (B (indT y [(z:Int)]))/\Ret Tryz.prog w0 31 [mtA x,ints [(z:Int)]] (B (indT x [(z:Int)]))/\Ret Tryz.prog w0 31 [mtA y,ints [(z:Int)]] (B (indT y [(z:Int)])):=fun z hz=>by
  have hl1:=C.fr
  have hl2:=C.to
  have one:∀ {m:Mtd},OkT m->m.n=x.n->indT m [(z:Int)]=decide ((z:Int)∈aq5 m S):=fun {m} hm hmn=>by
   have hs1:FS.ofList [(z:Int)]⊆FS.upTo m.n.toNat:=fun v hv=>by rw [FS.mem_ofList] at hv;simp at hv;rw [FS.mem_upTo];omega
   have hl:(FS.ofList [(z:Int)]).l=[(z:Int)]:=fs_one
   rw [<-hl,dqk hm hs1,decide_eq_decide,dq3 (by omega),hS0,show (insert (z:Int) (∅ :FS):FS)=FS.ofList [(z:Int)] from FS.ext fun v=>by rw [FS.mem_insert,FS.mem_ofList];simp]
   constructor
   ·exact fun k=>⟨by omega,by simp,k⟩
   ·exact fun k=>k.2.2
  have a1:=hqq (w0:=w0) (l:=aq5 x S) (x:=z) (by omega)
  have a2:=hqq (w0:=w0) (l:=aq5 y S) (x:=z) (by omega)
  rw [aqp.2 (equ C.n64).set,Bool.true_and,<-one C.oa rfl] at a1
  rw [aqp.2 (equ C.swap.n64).set,Bool.true_and,<-one C.ob C.nn.symm] at a2
  exact ⟨a1,a2,cqo nx (by simp),cqo ny (by simp)⟩
 clear C hS0 hSe hset hok e0 e1 hm hr
 generalize adjS x y S=A at *
 generalize aq5 x S=F at *
 generalize aq5 y S=G at *
 generalize indT x=vx at *
 generalize indT y=vy at *
 obtain ⟨t,n,a,b,l,xs⟩:=x
 obtain ⟨t',n',a',b',l',xs'⟩:=y
 have hnn:(Mtd.mk t n a b l xs).n=n:=rfl
 rw [hnn] at hal hn hfr
 have hal':=eq_true hal
 have g20':¬(20:Int)<T.l.length:=by omega
 generalize T.l=Tl at *
 simp only [mtA,mtC] at c1 c2 c3 g1 hfr ⊢
 refine aqf Tryz.func7 rfl Tryz.ntmps7 (ts:=[6]) rfl (by simp) (by kernel_rfl) ?_
 repeat'(with_reducible first|(refine aqd (hK _ _ ?_);clear hK K)|((fail_if_success(refine aql 1 ?_));(fail_if_success(refine(?_:AWP _ _ _ (Code.region 1 _ _) _ _ _)));refine vr [] fun K hK=>?_)|(refine aqa fun K' hK'=>?_;simp;repeat'(first|(apply hK';clear hK' K')|intro hg|fail))|((fail_if_success(refine aql 1 ?_));refine sp ?_)|fail)
 rename_i p hp q
 obtain ⟨hqp,hq⟩:=bq3 hg
 have hpq:p≠q:=Ne.symm hqp
 obtain ⟨H2,hH2⟩:∃ H2,H2=upd (upd H p (some (.box [I t,I n,I a,I b,rows l,.sl (mtCs xs) xs.length]))) q (some (.box [I t',I n',I a',I b',rows l',.sl (mtCs xs') xs'.length])):=⟨_,rfl⟩
 have hsub:Sub H H2:=by rw [hH2];exact ((Sub.refl H).upd hp _).upd hq _
 have lp:H2 p=some (.box [I t,I n,I a,I b,rows l,.sl (mtCs xs) xs.length]):=by rw [hH2,aqo _ _ _ hpq,aqk]
 have lq:H2 q=some (.box [I t',I n',I a',I b',rows l',.sl (mtCs xs') xs'.length]):=by rw [hH2,aqk]
 rw [<-hH2]
 clear hH2 hp hq
 simp only [ints,List.map_nil,List.length_nil] at c3 c4 g1 g2 g3 g4
 repeat'(with_reducible first|(refine aqd (hK _ _ ?_);clear hK K)|refine vr [] fun K hK=>?_|((first|refine aqa fun K' hK'=>?_|refine aqb fun K' B hK' hB=>?_|(apply aqj;refine aqe rfl fun K' hK'=>?_));simp[lp,lq,g20,g20',ints];repeat'(first|((first|refine hK' ?_|refine hB ?_);clear hK' hB K' B)|(apply hK';clear hK' K')|refine Ret.use cf ?_|refine Ret.use c1 ?_|refine Ret.use c2 ?_|refine Ret.use c3 ?_|refine Ret.use c4 ?_|refine Ret.use g1 ?_|fail))|refine sp ?_|fail)
 refine aqi (fun env h=>∃ i:Nat,i<=A.length/\h=H2/\env 11=I i/\env 7=rows A/\env 8=ints F/\env 9=ints G/\env 10=I 0/\env 2=ints Tl/\env 3= .ptr p 0 0/\env 4= .ptr q 0 0) (fun env _=>A.length-natA (env 11)) ?_ ?_
 ·exact ⟨0,by omega,rfl,by simp,by simp [rows],by simp [ints],by simp [ints],by simp,by simp [ints],by simp,by simp⟩
 rintro env h ⟨i,hi,rfl,h11,h7,h8,h9,h10,h2',h3,h4⟩
 have hnat:natA (env 11)=i:=by simp [h11]
 rw [hnat];clear hnat
 by_cases gi:i<A.length
 ·have e1:∀ h:i<A.length,A[i]'h=[]:=fun h=>hempty i h
  repeat'(with_reducible first|(refine aqd (hK _ _ ?_);clear hK K)|refine vr [] fun K hK=>?_|((first|refine aqa fun K' hK'=>?_|refine aqb fun K' B hK' hB=>?_);simp[h11,h7,h8,h9,h10,h2',h3,h4,rows,gi,e1];repeat'(first|((first|refine hK' ?_|refine hB ?_);clear hK' hB K' B)|(apply hK';clear hK' K')|refine And.intro ?_ ?_|(clear hK' K';omega)))|refine sp ?_|fail)
  exact ⟨⟨i+1,by omega,rfl,by simp,by simp [h7,rows],by simp [h8],by simp [h9],by simp [h10],by simp [h2'],by simp [h3],by simp [h4]⟩,by simp;omega⟩
 obtain rfl:i=A.length:=by omega
 repeat'(with_reducible first|(refine aqd (hK _ _ ?_);clear hK K)|refine vr [] fun K hK=>?_|((first|refine aqa fun K' hK'=>?_|refine aqb fun K' B hK' hB=>?_);simp[h11,h7,h8,h9,h10,h2',h3,h4,rows,gi];repeat'(first|((first|refine hK' ?_|refine hB ?_);clear hK' hB K' B)|(apply hK';clear hK' K')|fail))|refine sp ?_|fail)
 refine aqi (fun env h'=>∃ z:Nat,z<=A.length/\h'=h/\env 12=I z/\env 7=rows A/\env 8=ints F/\env 9=ints G/\env 10=I 0/\env 2=ints Tl/\env 3= .ptr p 0 0/\env 4= .ptr q 0 0) (fun env _=>A.length-natA (env 12)) ?_ ?_
 ·exact ⟨0,by omega,rfl,by simp,by simp [h7,rows],by simp [h8],by simp [h9],by simp [h10],by simp [h2'],by simp [h3],by simp [h4]⟩
 clear h11 h7 h8 h9 h10 h2' h3 h4 env
 rintro env h' ⟨z,hz,rfl,h12,h7,h8,h9,h10,h2',h3,h4⟩
 have hnat:natA (env 12)=z:=by simp [h12]
 rw [hnat];clear hnat
 by_cases gz:(z:Int)<n
 ·obtain ⟨d1,d2,d3,d4⟩:=hfr z gz
  generalize vx [(z:Int)]=v1 at *
  generalize vy [(z:Int)]=v2 at *
  simp only [ints,List.map_cons,List.map_nil,List.length_singleton] at d1 d2 d3 d4
  repeat'(with_reducible first|(refine aqd (hK _ _ ?_);clear hK K)|((fail_if_success(refine aql 12 ?_));(fail_if_success(refine(?_:AWP _ _ _ (Code.region 12 _ _) _ _ _)));refine vr [] fun K hK=>?_)|((first|refine aqa fun K' hK'=>?_|refine aqb fun K' B hK' hB=>?_);simp[h12,h7,h8,h9,h10,h2',h3,h4,lp,lq,gz,ints];repeat'(first|((first|refine hK' ?_|refine hB ?_);clear hK' hB K' B)|(apply hK';clear hK' K')|fail))|((fail_if_success(refine aql 12 ?_));refine sp ?_)|fail)
  refine bqk mixed [] [71,80] [0,1,3,4,5,2,6,7,8,9,10,12,13,14,11,15,16,17] (by kernel_rfl) (fun K hK=> ?_)
  simp only [List.filterMap_cons,List.filterMap_nil,List.getElem?_cons_succ,List.getElem?_cons_zero]
  repeat'(with_reducible first|(refine sp (hK _ _ ?_);clear hK K)|refine vr [] fun K hK=>?_|((first|refine aqa fun K' hK'=>?_|refine aqb fun K' B hK' hB=>?_|refine aqm fun K' hK'=>?_|(apply cqn;refine aqz rfl fun K' hK'=>?_));simp[h12,h7,h8,h9,h10,h2',h3,h4,lp,lq,gz,ints,boxes,Blk.isArr,aqg.refl];repeat'(first|((first|refine hK' ?_|refine hB ?_);clear hK' hB K' B)|(apply hK';clear hK' K')|(refine Ret.use d1 ?_;try simp[h12,h7,h8,h9,h10,h2',h3,h4,lp,lq,gz,ints,boxes,Blk.isArr,aqg.refl])|(refine Ret.use d2 ?_;try simp[h12,h7,h8,h9,h10,h2',h3,h4,lp,lq,gz,ints,boxes,Blk.isArr,aqg.refl])|(refine Ret.use d3 ?_;try simp[h12,h7,h8,h9,h10,h2',h3,h4,lp,lq,gz,ints,boxes,Blk.isArr,aqg.refl])|(refine Ret.use d4 ?_;try simp[h12,h7,h8,h9,h10,h2',h3,h4,lp,lq,gz,ints,boxes,Blk.isArr,aqg.refl])|refine And.intro ?_ ?_|(clear hK' K';omega)))|refine sp ?_|fail)
  exact ⟨⟨z+1,by omega,rfl,by simp,by simp [h7],by simp [h8],by simp [h9],by simp [h10],by simp [h2',ints],by simp [h3],by simp [h4]⟩,by simp;omega⟩
 ·repeat'(with_reducible first|(refine aqd (hK _ _ ?_);clear hK K)|refine vr [] fun K hK=>?_|((first|refine aqa fun K' hK'=>?_|refine aqb fun K' B hK' hB=>?_|(apply aqj;refine aqe rfl fun K' hK'=>?_));simp[h12,h7,h8,h9,h10,h2',h3,h4,lp,lq,gz,ints,rows,hal'];repeat'(first|((first|refine hK' ?_|refine hB ?_);clear hK' hB K' B)|(apply hK';clear hK' K')|refine Ret.use g2 ?_|refine Ret.use g3 ?_|refine Ret.use g4 ?_|fail))|apply aqc|refine sp ?_|fail)
  exact ⟨by simp,hsub⟩
end Go.Am
