/- Contracts and plain laws that the law InterTurnsG needs, part 14. -/
import Derived.Test.YtcdcombogmflkaaGreatDoorZInterTurnsG13
import Derived.LaidLaws
import Derived.LaidHandle
import Derived.Stop.Joined
namespace Go.Am
open Go Go.RowKit Go.ChangeShapes Go.WideShapes Go.Deep
set_option linter.unusedVariables false
section
variable {P : Program} (h : ∃ r, behindMainWord (wordsSigns P.initOrder.toList) = "cut".toList :: r)
include h
theorem eq8 (h1:P.laysLater=false) (h2:P.bearsReflect=false)
  (h3 : (P.doorRows.any fun n => ["(look 8)", "(look 8, test files too)", "(list 7)", "(look 7)"].any (endsIn · n)) = false) : P.mayEnter = true := by
 obtain ⟨r,h⟩:=h
 unfold Program.mayEnter Program.doorFits
 rw [h,h1,h2]
 simp only [strip_cut]
 have e1 : ("cut".toList == "gc".toList) = false := by decide +kernel
 have e2 : ("cut".toList == "spec".toList) = false := by decide +kernel
 have e3 : ("cut".toList == "carried".toList) = false := by decide +kernel
 simp only [e1,e2,e3,Bool.false_or,Bool.false_and,h3]
 simp
end
def kqj (ws:List (List Char)):Option (Bool×List Char):=
 match ws with
 | h :: s :: _ => if !isSumSigns s then none else if h == "harness".toList then some (true, s) else if h == "ownmain".toList then some (false, s) else none
 | _=>none
theorem mainIs_signs (P:Program):P.mainIs=kqj (wordsSigns P.initOrder.toList):=by
 unfold Program.mainIs kqj
 generalize wordsSigns P.initOrder.toList=ws
 rcases ws with _ | ⟨h,_ | ⟨s,r⟩⟩<;>rfl
theorem kqk {P:Program} {har:String} {l lh:List Char} (h:P.initOrder=String.ofList l) (h2:har=String.ofList lh) (k:kqj (wordsSigns l)=some (true,lh)):P.mainIs=some (true,har.toList):=by
 rw [mainIs_signs,h,h2,String.toList_ofList,String.toList_ofList]
 exact k
section
variable {H:Type} {enc:TypeId×Value->H}
theorem nqb {C:Checked} {laid:List (String×DataW Unit)} {spec:ChangeSpec} {n:FuncId} {fn:Func} {ts:List TypeId} {rt:TypeId} {dom:List PathCond} {os:Os} (own:ownKnob C.prog.godebug=none) (started:os.Started)
  (noInit:C.prog.inits.idxOf? n=none) (hfn:C.prog.funcs[n]? =some fn) (hp:fn.params.toList=ts) (hr:fn.resultTypes= #[rt]) (hu:C.prog.underlying rt=some .bool)
  (hvars:spec.vars=[]) (hspec:∀ ds:List (DataW H),ds.length=ts.length->spec.fn H ds={ results:=[.lit (.bool true)],args:=ds })
  (hl:laidOutB C.prog=true) (hread:(ts.all fun t=>C.prog.readableRec t&&decide (t<C.prog.types.size))=true)
  (witness:∃ (w:World) (tape:Tape) (i:Input),w.os=os/\(w.forCall tape i).Shaped C.prog/\i.vars=[]/\Input.okWide C.prog (w.forCall tape i) .any w.heap.size n i/\
   ((spec.pre enc C.prog fn dom false (w.forCall tape i).memory i.args/\laidMetH C.prog laid (w.forCall tape i).memory)/\sizedMet enc C.prog fn (OpenSpec.ofChange spec) false (w.forCall tape i).memory i.args)/\({}:Assume).holds C.prog (lone (Frame.enter C.prog n i.args .normal) [] (w.forCall tape i)))
  (walk:Walks H enc C.prog n ts):ReturnsInHanded {} C os n .any (fun w args=>(spec.pre enc C.prog fn dom false w args/\laidMetH C.prog laid w)/\sizedMet enc C.prog fn (OpenSpec.ofChange spec) false w args) (spec.post enc C.prog fn false true false false):=by
 refine returnsInHanded_of_change_and (C:=C) (X:=fun w _=>laidMetH C.prog laid w) (fun _ _ _ hh h=>h.of_heap hh) own started noInit hfn witness ?_
 intro W base args ds gs before hval hW hcnd hsz _ _
 have hW':=hW
 obtain ⟨p,q,hA,hV,rfl,hfz,hnd⟩:=hW
 rw [hvars] at hV
 obtain ⟨rfl,rfl⟩:=trodVars_none hV
 rw [hp] at hA
 have hlen:ds.length=ts.length:=by
  have:∀ (ts:List TypeId) (vs:List Value) (ds:List (DataW H)) (ps:List MemPlace),DataW.TrodAll enc C.prog W 0 (fun _=>true) true ts vs ds ps->ds.length=ts.length:=by
   intro ts
   induction ts with
   | nil=>intro vs ds ps h;obtain ⟨_,rfl,_⟩:=trodAll_nil h;rfl
   | cons t ts ih=>
    intro vs ds ps h
    obtain ⟨v,vs',d,ds',p,q,rfl,rfl,rfl,h1,h2⟩:=trodAll_cons h
    simp [ih _ _ _ h2]
  exact this _ _ _ _ hA
 have hpts:∀ (j:Nat) (t:TypeId),ts[j]? =some t->fn.params[j]? =some t:=by
  intro j t h;rw [<-hp] at h;simpa using h
 have hz:∀ n∈DataW.weightsEach C.prog ts ds,n<=reachBytes:=by
  have e:spec.plain.varTypes C.prog=[]:=by simp [ChangeSpec.plain,DataSpec.varTypes,hvars]
  rw [e,List.append_nil,List.append_nil,hp] at hsz
  intro n hn
  have:=List.all_eq_true.1 hsz n hn
  simpa using this
 obtain ⟨avs,hvr,hc⟩:=walk W base args ds p hA (fun j t v h1 h2=>hval j t v (hpts j t h1) h2) hz
 refine (law_closes hc hvr).mono ?_
 rintro e W' ⟨rfl,bel⟩
 refine ⟨.bool true,rfl,ds,[],p++[],[],p,[],hW',?_,?_,?_,bel.frame _,fun h=>by cases h⟩
 ·rw [List.append_nil,hspec ds hlen,hr]
  exact trodAll_mk1 (shut_bool hu _)
 ·rw [List.append_nil,hspec ds hlen,hp]
  refine iq6 hl bel ts _ _ _ (fun t ht=> ?_) hA
  have:=List.all_eq_true.1 hread t ht
  simpa using this
 ·rw [List.append_nil,hspec ds hlen,hvars]
  simp [DataW.TrodVars]
end
end Go.Am
namespace Go.Am
open Go Go.Proofs
set_option linter.unusedVariables false
set_option linter.unusedSimpArgs false
variable {w0:World}
attribute [local irreducible] AWP aqo
attribute [local congr] aqp
theorem few_n {m:Mtd} {k:Int} (h:fewR m k=true):m.n<=k:=by
 obtain ⟨t,n,a,b,l,xs⟩:=m
 rw [fewR] at h
 simp only [Bool.and_eq_true,decide_eq_true_eq] at h
 have:=h.1.1.2
 unfold mostR at this
 have e:(Mtd.mk t n a b l xs).n=n:=rfl
 rw [e]
 split at this<;>omega
set_option maxRecDepth 20000 in
set_option maxHeartbeats 4000000 in
theorem iqs {x y:Mtd} (hx:LenM x) (hy:LenM y):Ret Tryz.prog w0 10 [mtA x,mtA y] (B true):=by
 have cf:=gq4 (w0:=w0)
 have c1:=hq8 (w0:=w0) x hx 8
 have c2:=hq8 (w0:=w0) y hy 8
 intro H
 have hcase:(fewR x 8=false\/fewR x 8=true/\fewR y 8=false\/fewR x 8=true/\fewR y 8=true/\mayX x y=false)\/fewR x 8=true/\fewR y 8=true/\mayX x y=true:=by
  cases fewR x 8<;>cases fewR y 8<;>cases mayX x y<;>simp
 have c3:fewR x 8=true->fewR y 8=true->Ret Tryz.prog w0 45 [mtA x,mtA y] (B (mayX x y)):=fun h1 h2=>kq1 (Nice.of hx h1) (Nice.of hy h2)
 rcases hcase with (h1 | ⟨h1,h2⟩ | ⟨h1,h2,hm⟩) | ⟨h1,h2,hm⟩
 rotate_right
 rotate_left
 iterate 3
  try have c3:=c3 h1 h2
  try rw [hm] at c3
  rw [h1] at c1
  try rw [h2] at c2
  obtain ⟨t,n,a,b,l,xs⟩:=x
  obtain ⟨t',n',a',b',l',xs'⟩:=y
  simp only [mtA,mtC] at c1 c2 c3 ⊢
  refine aqf Tryz.func10 rfl Tryz.ntmps10 (ts:=[4]) rfl (by simp) (by kernel_rfl) ?_
  repeat'(with_reducible first|(refine aqd (hK _ _ ?_);clear hK K)|((fail_if_success(refine aql 1 ?_));(fail_if_success(refine(?_:AWP _ _ _ (Code.region 1 _ _) _ _ _)));refine vr [] fun K hK=>?_)|(refine aqa fun K' hK'=>?_;simp;repeat'(first|(apply hK';clear hK' K')|intro hg|fail))|((fail_if_success(refine aql 1 ?_));refine sp ?_)|fail)
  rename_i p hp q
  obtain ⟨hqp,hpq,hsub⟩:=cq1 hp hg
  repeat'(with_reducible first|(refine aqd (hK _ _ ?_);clear hK K)|refine vr [] fun K hK=>?_|((first|refine aqa fun K' hK'=>?_|refine aqb fun K' B hK' hB=>?_|(apply aqk;refine aqe rfl fun K' hK'=>?_));simp[hqp,hpq];repeat'(first|((first|refine hK' ?_|refine hB ?_);clear hK' hB K' B)|(apply hK';clear hK' K')|refine Ret.use cf ?_|refine Ret.use c1 ?_|refine Ret.use c2 ?_|refine Ret.use c3 ?_|fail))|apply aqc|refine sp ?_|fail)
  exact ⟨by simp,hsub _⟩
 have c3:=c3 h1 h2
 rw [hm] at c3
 rw [h1] at c1
 rw [h2] at c2
 have nx:=Nice.of hx h1
 have ny:=Nice.of hy h2
 obtain ⟨ox,oy,hn⟩:=(mq6 nx ny).1 hm
 have n1:=bq1 ox.may
 have n8:=few_n h1
 have M:=dqp ox oy hn
 have C:=M.com
 have g1:=fqg (w0:=w0) ox oy hn
 have l1:=M.len
 have l2:=uF_len (kqv ox oy hn) (maxS x y)
 have g2:=jqf (w0:=w0) nx ny (s:=(maxS x y).l) (by omega)
 rw [fqa ox C.sub,fqa oy C.sub',decide_eq_true C.i1,decide_eq_true C.i2,Bool.and_self] at g2
 have g3:=Bound14_ret (w0:=w0) ox oy hn (uF_sub (a:=x) (b:=y) (S:=maxS x y))
 have hb:bndF x y (uF x y (maxS x y))=(maxS x y).l.length:=M.bound
 rw [hb] at g3
 have g4:=iq5 (w0:=w0) ox oy hn (uF_sub (a:=x) (b:=y) (S:=maxS x y))
 rw [hb] at g4
 have g5:∀ b:Nat,b<2^x.n.toNat->Ret Tryz.prog w0 47 [I x.n,I b] (ints (subL x.n.toNat b)):=fun b hb=>by
  have h28:2^x.n.toNat<=2^8:=Nat.pow_le_pow_right (by omega) (by omega)
  have:=subset_ret (w0:=w0) (n:=x.n.toNat) (bits:=b) (by omega) (by omega)
  rwa [show ((x.n.toNat:Nat):Int)=x.n by omega] at this
 have g6:∀ b:Nat,(subL x.n.toNat b).length<=64/\Ret Tryz.prog w0 46 [mtA x,mtA y,ints (subL x.n.toNat b)] (B (indT x (subL x.n.toNat b)&&indT y (subL x.n.toNat b)))/\((maxS x y).l.length<(subL x.n.toNat b).length->(indT x (subL x.n.toNat b)&&indT y (subL x.n.toNat b))=false):=fun b=>by
  have hl:=(subL_pts (n:=x.n.toNat) (by omega) b).length
  refine ⟨by omega,jqf nx ny (by omega),fun hlt=> ?_⟩
  refine Bool.eq_false_iff.2 fun e=> ?_
  rw [Bool.and_eq_true] at e
  obtain ⟨_,T,e1,e2,e3⟩:=(indT_iff nx).1 e.1
  obtain ⟨_,T',f1,f2,f3⟩:=(indT_iff ny).1 e.2
  have:T=T':=FS.ext' (by rw [<-e1,<-f1])
  subst this
  have:=M.best ⟨ox,oy,hn,e2,e3,f3⟩
  rw [e1] at hlt
  exact absurd hlt (Nat.not_lt.2 this)
 obtain ⟨k,hk⟩:∃ k:Nat,x.n=k:=⟨x.n.toNat,by omega⟩
 have hkn:x.n.toNat=k:=by omega
 rw [hkn] at g5 g6
 have hpow:(2:Int)^k=((2^k:Nat):Int):=by simp
 have hmin:min k 64=k:=by omega
 have hN8:2^k<=2^8:=Nat.pow_le_pow_right (by omega) (by omega)
 clear M C hb hm
 generalize (uF x y (maxS x y)).l=U at *
 generalize (maxS x y).l=s at *
 generalize subL k=sb at *
 have g6':∀ b:Nat,∃ v:Bool,(sb b).length<=64/\Ret Tryz.prog w0 46 [mtA x,mtA y,ints (sb b)] (B v)/\(s.length<(sb b).length->v=false):=fun b=>⟨_,g6 b⟩
 clear g6
 obtain ⟨t,n,a,b,l,xs⟩:=x
 obtain ⟨t',n',a',b',l',xs'⟩:=y
 have hnn:(Mtd.mk t n a b l xs).n=n:=rfl
 rw [hnn] at hk g5
 subst hk
 simp only [mtA,mtC] at c1 c2 c3 g1 g2 g3 g4 g6' ⊢
 generalize hNe:2^k=N at *
 refine aqf Tryz.func10 rfl Tryz.ntmps10 (ts:=[4]) rfl (by simp) (by kernel_rfl) ?_
 repeat'(with_reducible first|(refine aqd (hK _ _ ?_);clear hK K)|((fail_if_success(refine aql 1 ?_));(fail_if_success(refine(?_:AWP _ _ _ (Code.region 1 _ _) _ _ _)));refine vr [] fun K hK=>?_)|(refine aqa fun K' hK'=>?_;simp;repeat'(first|(apply hK';clear hK' K')|intro hg|fail))|((fail_if_success(refine aql 1 ?_));refine sp ?_)|fail)
 rename_i p hp q
 obtain ⟨hqp,hpq,hsub⟩:=cq1 hp hg
 repeat'(with_reducible first|(refine aqd (hK _ _ ?_);clear hK K)|refine vr [] fun K hK=>?_|((first|refine aqa fun K' hK'=>?_|refine aqb fun K' B hK' hB=>?_|(apply aqk;refine aqe rfl fun K' hK'=>?_));simp[hqp,hpq];repeat'(first|((first|refine hK' ?_|refine hB ?_);clear hK' hB K' B)|(apply hK';clear hK' K')|refine Ret.use cf ?_|refine Ret.use c1 ?_|refine Ret.use c2 ?_|refine Ret.use c3 ?_|refine Ret.use g1 ?_|refine Ret.use g2 ?_|refine Ret.use g3 ?_|refine Ret.use g4 ?_|fail))|refine sp ?_|fail)
 obtain ⟨H2,hH2⟩:∃ H2,H2=upd (upd H p (some (.box [I t,I k,I a,I b,rows l,.sl (mtCs xs) xs.length]))) q (some (.box [I t',I n',I a',I b',rows l',.sl (mtCs xs') xs'.length])):=⟨_,rfl⟩
 have lp:H2 p=some (.box [I t,I k,I a,I b,rows l,.sl (mtCs xs) xs.length]):=by rw [hH2,aqm _ _ _ hpq,aqj]
 have lq:H2 q=some (.box [I t',I n',I a',I b',rows l',.sl (mtCs xs') xs'.length]):=by rw [hH2,aqj]
 have hs2:Sub H H2:=by rw [hH2];exact hsub _
 rw [<-hH2]
 clear hH2
 refine aqi (fun env h=>∃ b:Nat,b<=N/\h=H2/\env 8=I b/\env 5=ints s/\env 2= .ptr p 0 0/\env 3= .ptr q 0 0) (fun env _=>N-natA (env 8)) ?_ ?_
 ·exact ⟨0,by omega,rfl,by simp,by simp,by simp,by simp⟩
 rintro env h ⟨bt,hbt,rfl,hE⟩
 have hnat:natA (env 8)=bt:=by simp [hE]
 rw [hnat];clear hnat
 by_cases gb:bt<N
 ·have d1:=g5 bt gb
  obtain ⟨v,hl,d2,hv⟩:=g6' bt
  generalize sb bt=tt at *
  have gb':=eq_true (show (bt:Int)<N by omega)
  by_cases gl:s.length<tt.length
  ·have hv:=hv gl
   subst hv
   repeat'(with_reducible first|(refine aqd (hK _ _ ?_);clear hK K)|refine vr [] fun K hK=>?_|((first|refine aqa fun K' hK'=>?_|refine aqb fun K' B hK' hB=>?_|(apply aqk;refine aqe rfl fun K' hK'=>?_));simp[hE,lp,lq,hmin,hpow,IntKind.bits,gb,gl];repeat'(first|((first|refine hK' ?_|refine hB ?_);clear hK' hB K' B)|(apply hK';clear hK' K')|refine Ret.use d1 ?_|refine Ret.use d2 ?_|refine And.intro ?_ ?_|(clear hK' K';omega)))|refine sp ?_|fail)
   exact ⟨⟨bt+1,by omega,rfl,by simp [hE]⟩,by simp;omega⟩
  ·repeat'(with_reducible first|(refine aqd (hK _ _ ?_);clear hK K)|refine vr [] fun K hK=>?_|((first|refine aqa fun K' hK'=>?_|refine aqb fun K' B hK' hB=>?_|(apply aqk;refine aqe rfl fun K' hK'=>?_));simp[hE,lp,lq,hmin,hpow,IntKind.bits,gb,gl];repeat'(first|((first|refine hK' ?_|refine hB ?_);clear hK' hB K' B)|(apply hK';clear hK' K')|refine Ret.use d1 ?_|refine And.intro ?_ ?_|(clear hK' K';omega)))|refine sp ?_|fail)
   exact ⟨⟨bt+1,by omega,rfl,by simp [hE]⟩,by simp;omega⟩
 ·obtain rfl:bt=N:=by omega
  repeat'(with_reducible first|(refine aqd (hK _ _ ?_);clear hK K)|refine vr [] fun K hK=>?_|((first|refine aqa fun K' hK'=>?_|refine aqb fun K' B hK' hB=>?_);simp[hE,lp,lq,hmin,hpow,IntKind.bits,gb];repeat'(first|((first|refine hK' ?_|refine hB ?_);clear hK' hB K' B)|(apply hK';clear hK' K')|refine And.intro ?_ ?_|(clear hK' K';omega)))|apply aqc|refine sp ?_|fail)
  exact ⟨by simp,hs2⟩
end Go.Am
namespace Go.Am
open Go Go.Proofs FS
set_option linter.unusedVariables false
set_option linter.unusedSimpArgs false
def sumM (x y:Mtd):Mtd:= .mk 9 (x.n+y.n) 0 0 [] [x,y]
theorem deepR_mono:∀ m k,bqm m k<=bqm m (k+1):=by
 refine Mtd.ind fun t n a b l xs ih k=> ?_
 rw [bqm,bqm]
 by_cases g:0<k/\5<=t/\t<=9
 ·rw [if_pos g,if_pos ⟨by omega,g.2⟩]
  have:∀ ys:List Mtd,(∀ y∈ys,y∈xs)->bqb ys (k-1)<=bqb ys (k+1-1):=by
   intro ys
   induction ys with
   | nil=>intro _;simp [bqb]
   | cons y ys ih2=>
    intro hy
    rw [bqb,bqb]
    have h1:=ih y (hy y (by simp)) (k-1)
    rw [show k-1+1=k+1-1 by omega] at h1
    have h2:=ih2 fun u hu=>hy u (by simp [hu])
    omega
  have:=this xs fun y h=>h
  omega
 ·rw [if_neg g]
  exact Nat.add_le_add_right (Nat.zero_le _) 1
section
variable {x y z w:Mtd}
theorem sum_nice (hx:OkT x) (hy:OkT y):Nice (sumM x y):=
 .mk (by simp) (by simp) (by simp) (by omega) fun u hu=>by
  simp at hu
  rcases hu with rfl | rfl
  ·exact hx.nice
  ·exact hy.nice
theorem sum_ok (hx:OkT x) (hy:OkT y) (h4:x.n<=4) (h4':y.n<=4) (d1:bqm x 4<=3) (d2:bqm y 4<=3):OkT (sumM x y):=by
 have n1:=bq1 hx.may
 have n2:=bq1 hy.may
 refine ⟨sum_nice hx hy,?_,?_⟩
 ·rw [sumM,mayT,if_pos (by omega),if_pos (by omega),kqi,kqi,kqi,hx.may,hy.may]
  simp [sumN];omega
 ·have e1:∀ m:Mtd,bqm m 4<=3->bqm m 3<=3:=fun m h=>Nat.le_trans (deepR_mono m 3) h
  have a1:=e1 x d1
  have a2:=e1 y d2
  rw [sumM,bqm,if_pos (by omega),show (4-1:Nat)=3 from rfl]
  simp only [bqb]
  omega
theorem mqo (hx:OkT x) (hy:OkT y) {s:FS} (hs:s⊆FS.upTo (x.n+y.n).toNat):(Rk.Ind (rkM (sumM x y)) s↔Rk.Ind (rkM x) (shf 0 x.n s)/\Rk.Ind (rkM y) (shf x.n y.n s))/\s.card=(shf 0 x.n s).card+(shf x.n y.n s).card:=by
 have n1:=bq1 hx.may
 have n2:=bq1 hy.may
 have hb:∀ u,u∈s->0<=u/\u<nS [x,y]:=fun u hu=>by
  have:=FS.mem_upTo.1 (hs u hu)
  simp only [nS,List.map_cons,List.map_nil,List.sum_cons,List.sum_nil]
  omega
 have hrk:∀ u∈[x,y],Rk (rkM u):=fun u hu=>by
  simp at hu
  rcases hu with rfl | rfl
  ·exact hx.rk
  ·exact hy.rk
 have hnn:∀ u∈[x,y],0<=u.n:=fun u hu=>by
  simp at hu
  rcases hu with rfl | rfl
  ·exact n1.1
  ·exact n2.1
 have key:=ind_sum hrk hnn hb
 have hcap:s∩FS.upTo (x.n+y.n).toNat=s:=FS.ext fun u=>by
  rw [FS.mem_inter]
  exact ⟨fun h=>h.1,fun h=>⟨h,hs u h⟩⟩
 have hr:rkM (sumM x y) s=rkS [x,y] 0 s:=by
  rw [sumM,rkM]
  simp only [hcap]
  simp
 constructor
 ·rw [Rk.Ind,hr,key]
  simp only [allI,Int.zero_add,and_true]
 ·have:=cS_card [x,y] hnn 0 s
  rw [show s.filter (fun u=>decide (0<=u/\u<0+nS [x,y]))=s from FS.ext fun u=>by
   have:=hb u
   rw [FS.mem_filter];simp only [decide_eq_true_eq]
   exact ⟨fun h=>h.1,fun h=>⟨h,by have:=this h;omega⟩⟩] at this
  rw [<-this]
  simp only [cS,Int.zero_add,Nat.add_zero]
def joinF (k:Int) (s t:FS):FS:=s∪FS.ofList (t.l.map (· + k))
theorem joinF_left {k:Int} {s t:FS} (hs:∀ u,u∈s->0<=u/\u<k) (ht:∀ u,u∈t->0<=u):shf 0 k (joinF k s t)=s:=FS.ext fun u=>by
 rw [dqi,joinF,FS.mem_union,FS.mem_ofList,List.mem_map]
 constructor
 ·rintro ⟨h1,h2,h3 | ⟨v,hv,e⟩⟩
  ·simpa using h3
  ·have:=ht v hv;omega
 ·intro h
  have:=hs u h
  exact ⟨this.1,this.2,.inl (by simpa using h)⟩
theorem joinF_right {k n:Int} {s t:FS} (hk:0<=k) (hs:∀ u,u∈s->0<=u/\u<k) (ht:∀ u,u∈t->0<=u/\u<n):shf k n (joinF k s t)=t:=FS.ext fun u=>by
 rw [dqi,joinF,FS.mem_union,FS.mem_ofList,List.mem_map]
 constructor
 ·rintro ⟨h1,h2,h3 | ⟨v,hv,e⟩⟩
  ·have:=hs _ h3;omega
  ·have:v=u:=by omega
   subst this
   exact hv
 ·intro h
  have:=ht u h
  exact ⟨this.1,this.2,.inr ⟨u,h,rfl⟩⟩
theorem sum_max (o1:OkT (sumM x z)) (o2:OkT (sumM y w)) {S T U:FS} (h1:MaxC x y S) (h2:MaxC z w T) (h:MaxC (sumM x z) (sumM y w) U):U.card=S.card+T.card:=by
 have c1:=h1.com
 have c2:=h2.com
 have n1:=c1.n64
 have n2:=c2.n64
 have e1:(sumM x z).n=x.n+z.n:=rfl
 have e2:(sumM y w).n=y.n+w.n:=rfl
 have m1:=c1.nn
 have m2:=c2.nn
 have hU:=h.com.sub
 rw [e1] at hU
 obtain ⟨a1,a2⟩:=mqo c1.oa c2.oa hU
 obtain ⟨b1,b2⟩:=mqo c1.ob c2.ob (s:=U) (by rw [<-m1,<-m2];exact hU)
 have shs:∀ {f n:Int} {s:FS},shf f n s⊆FS.upTo n.toNat:=fun u hu=>by
  have:=dqi.1 hu
  rw [FS.mem_upTo];omega
 have u1:=h1.best (T:=shf 0 x.n U) ⟨c1.oa,c1.ob,m1,shs,(a1.1 h.com.i1).1,by have:=(b1.1 h.com.i2).1;rwa [<-m1] at this⟩
 have u2:=h2.best (T:=shf x.n z.n U) ⟨c2.oa,c2.ob,m2,shs,(a1.1 h.com.i1).2,by have:=(b1.1 h.com.i2).2;rwa [<-m1,<-m2] at this⟩
 have hS:∀ u,u∈S->0<=u/\u<x.n:=fun u hu=>c1.lt hu
 have hT:∀ u,u∈T->0<=u/\u<z.n:=fun u hu=>c2.lt hu
 have j1:=joinF_left hS fun u hu=>(hT u hu).1
 have j2:=joinF_right n1.1 hS hT
 have hJ:joinF x.n S T⊆FS.upTo (x.n+z.n).toNat:=fun u hu=>by
  rw [joinF,FS.mem_union,FS.mem_ofList,List.mem_map] at hu
  rw [FS.mem_upTo]
  rcases hu with hu | ⟨v,hv,rfl⟩
  ·have:=hS u hu;omega
  ·have:=hT v hv;omega
 obtain ⟨p1,p2⟩:=mqo c1.oa c2.oa hJ
 obtain ⟨q1,q2⟩:=mqo c1.ob c2.ob (s:=joinF x.n S T) (by rw [<-m1,<-m2];exact hJ)
 rw [j1,j2] at p1 p2
 rw [<-m1,<-m2,j1,j2] at q1
 have u3:=h.best (T:=joinF x.n S T) ⟨o1,o2,h.com.nn,hJ,p1.2 ⟨c1.i1,c2.i1⟩,q1.2 ⟨c1.i2,c2.i2⟩⟩
 omega
end
end Go.Am
namespace Go.Am
open Go Go.Proofs
set_option linter.unusedVariables false
set_option linter.unusedSimpArgs false
variable {w0:World}
attribute [local irreducible] AWP aqo
attribute [local congr] aqp
theorem wks_nil4 {a b c d:Int} {cs:List AV} {k:Nat}:Wks (.agg [I a,I b,I c,I d,.sc (.slice none 0 0),.sl cs k]) (.agg [I a,I b,I c,I d,rows [],.sl cs k]):=by
 refine Wks.agg rfl fun i x y h1 h2=> ?_
 match i with
 | 0 | 1 | 2 | 3 | 5=>simp at h1 h2;subst h1;subst h2;exact ⟨Wks.refl _,rfl⟩
 | 4=>simp [rows] at h1 h2;subst h1;subst h2;exact ⟨Wks.nil,rfl⟩
 | i+6=>simp at h1
theorem Ret.sum2 {P:Program} {f:FuncId} {a b c d a' b' c' d':Int} {cs cs':List AV} {k k':Nat} {r:AV} (h:Ret P w0 f [.agg [I a,I b,I c,I d,rows [],.sl cs k],.agg [I a',I b',I c',I d',rows [],.sl cs' k']] r):
  Ret P w0 f [.agg [I a,I b,I c,I d,.sc (.slice none 0 0),.sl cs k],.agg [I a',I b',I c',I d',.sc (.slice none 0 0),.sl cs' k']] r:=
 h.wks rfl fun i u v h1 h2=>by
  match i with
  | 0=>simp at h1 h2;subst h1;subst h2;exact wks_nil4
  | 1=>simp at h1 h2;subst h1;subst h2;exact wks_nil4
  | i+2=>simp at h1
def goodM (m:Mtd):Prop:=fewR m 4=true/\eqc m=0/\¬3<bqm m 4
set_option maxRecDepth 20000 in
set_option maxHeartbeats 4000000 in
theorem nqe {l:List Mtd} (hl:aqz l) (hi:∀ x∈l,LenM x):Ret Tryz.prog w0 13 [.sl (mtCs l) l.length] (B true):=by
 have cf:=gq4 (w0:=w0)
 intro H
 by_cases h4:l.length=4
 rotate_left
 ·refine aqf Tryz.func13 rfl Tryz.ntmps13 (ts:=[2]) rfl (by simp) (by kernel_rfl) ?_
  have h4':¬(l.length:Int)=4:=by omega
  repeat'(with_reducible first|(refine sp (hK _ _ ?_);clear hK K)|refine vr [] fun K hK=>?_|((first|refine aqa fun K' hK'=>?_|refine aqb fun K' B hK' hB=>?_|(apply aqk;refine aqe rfl fun K' hK'=>?_));simp[h4'];repeat'(first|((first|refine hK' ?_|refine hB ?_);clear hK' hB K' B)|(apply hK';clear hK' K')|refine Ret.use cf ?_|fail))|apply aqc|refine sp ?_|fail)
  exact ⟨by simp,.refl _⟩
 obtain ⟨x,y,z,w,rfl⟩:∃ x y z w,l=[x,y,z,w]:=by
  match l,h4 with
  | [x,y,z,w],_=>exact ⟨x,y,z,w,rfl⟩
 refine aqf Tryz.func13 rfl Tryz.ntmps13 (ts:=[2]) rfl (by simp) (by kernel_rfl) ?_
 repeat'(with_reducible first|(refine sp (hK _ _ ?_);clear hK K)|refine vr [] fun K hK=>?_|((first|refine aqa fun K' hK'=>?_|refine aqb fun K' B hK' hB=>?_|(apply aqk;refine aqe rfl fun K' hK'=>?_));simp;repeat'(first|((first|refine hK' ?_|refine hB ?_);clear hK' hB K' B)|(apply hK';clear hK' K')|refine Ret.use cf ?_|fail))|refine sp ?_|fail)
 have hlen:([x,y,z,w]:List Mtd).length=4:=rfl
 refine aqi (fun env h=>∃ i:Nat,i<=4/\(∀ j (hj:j<4),j<i->goodM ([x,y,z,w][j]'hj))/\h=H/\env 3=I i/\env 0= .sl (mtCs [x,y,z,w]) 4) (fun env _=>4-natA (env 3)) ?_ ?_
 ·exact ⟨0,by omega,fun j _ h=>by omega,rfl,by simp,by simp⟩
 rintro env h ⟨i,hi4,hgood,rfl,hE⟩
 have hnat:natA (env 3)=i:=by simp [hE]
 rw [hnat];clear hnat
 by_cases gi:i<4
 ·have gi':=eq_true (show (i:Int)<4 by omega)
  have hm:=hi _ (List.getElem_mem (l:=[x,y,z,w]) gi)
  have hat:=dq1 (xs:=[x,y,z,w]) gi
  have hsl:(mtCs [x,y,z,w]).length=24:=dqb _
  have hlt':i*6+6<=24:=by omega
  have hnext:goodM ([x,y,z,w][i]'gi)->∀ j (hj:j<4),j<i+1->goodM ([x,y,z,w][j]'hj):=fun hg j hj hji=>by
   by_cases e:j=i
   ·subst e;exact hg
   ·exact hgood j hj (by omega)
  generalize [x,y,z,w][i]=m at *
  have hcl:=cqh m
  have hone:mtA m= .agg (mtC m):=rfl
  have c1:=hq8 (w0:=w0) m hm 4
  have hnn:fewR m 4=true->Nice m:=fun h=>Nice.of hm h
  have c2:=fun h=>eqz (w0:=w0) (hnn h)
  have c3:=kq3 (w0:=w0) hm
  have hd5:=iqc m 4
  unfold goodM at hnext
  rw [hone] at c1 c2 c3
  generalize mtCs [x,y,z,w]=cs at *
  generalize mtC m=mc at *
  cases f:fewR m 4 with
  | false=>
   rw [f] at c1
   repeat'(with_reducible first|(refine sp (hK _ _ ?_);clear hK K)|refine vr [] fun K hK=>?_|((first|refine aqa fun K' hK'=>?_|refine aqb fun K' B hK' hB=>?_|(apply aqk;refine aqe rfl fun K' hK'=>?_));simp[hE,gi,gi',hat,hsl,hlt',hcl];repeat'(first|((first|refine hK' ?_|refine hB ?_);clear hK' hB K' B)|(apply hK';clear hK' K')|refine Ret.use c1 ?_|fail))|apply aqc|refine sp ?_|fail)
   exact ⟨by simp,.refl _⟩
  | true=>
   rw [f] at c1 hnext
   have c2:=c2 f
   generalize eqc m=u at *
   generalize bqm m 4=d at *
   by_cases g1:u=0
   ·by_cases g2:3<d
    ·have g2':=eq_true (show (3:Int)<d by omega)
     repeat'(with_reducible first|(refine sp (hK _ _ ?_);clear hK K)|refine vr [] fun K hK=>?_|((first|refine aqa fun K' hK'=>?_|refine aqb fun K' B hK' hB=>?_|(apply aqk;refine aqe rfl fun K' hK'=>?_));simp[hE,gi,gi',hat,hsl,hlt',hcl,g1,g2'];repeat'(first|((first|refine hK' ?_|refine hB ?_);clear hK' hB K' B)|(apply hK';clear hK' K')|refine Ret.use c1 ?_|refine Ret.use c2 ?_|refine Ret.use c3 ?_|fail))|apply aqc|refine sp ?_|fail)
     exact ⟨by simp,.refl _⟩
    ·have g2':=eq_false (show ¬(3:Int)<d by omega)
     repeat'(with_reducible first|(refine sp (hK _ _ ?_);clear hK K)|refine vr [] fun K hK=>?_|((first|refine aqa fun K' hK'=>?_|refine aqb fun K' B hK' hB=>?_|(apply aqk;refine aqe rfl fun K' hK'=>?_));simp[hE,gi,gi',hat,hsl,hlt',hcl,g1,g2'];repeat'(first|((first|refine hK' ?_|refine hB ?_);clear hK' hB K' B)|(apply hK';clear hK' K')|refine Ret.use c1 ?_|refine Ret.use c2 ?_|refine Ret.use c3 ?_|refine And.intro ?_ ?_|(clear hK' K';omega)))|refine sp ?_|fail)
     exact ⟨⟨i+1,by omega,hnext ⟨rfl,g1,g2⟩,rfl,by simp [hE]⟩,by simp;omega⟩
   ·repeat'(with_reducible first|(refine sp (hK _ _ ?_);clear hK K)|refine vr [] fun K hK=>?_|((first|refine aqa fun K' hK'=>?_|refine aqb fun K' B hK' hB=>?_|(apply aqk;refine aqe rfl fun K' hK'=>?_));simp[hE,gi,gi',hat,hsl,hlt',hcl,g1];repeat'(first|((first|refine hK' ?_|refine hB ?_);clear hK' hB K' B)|(apply hK';clear hK' K')|refine Ret.use c1 ?_|refine Ret.use c2 ?_|fail))|apply aqc|refine sp ?_|fail)
    exact ⟨by simp,.refl _⟩
 ·obtain rfl:i=4:=by omega
  obtain ⟨x1,x2,x3⟩:=hgood 0 (by omega) (by omega)
  obtain ⟨y1,y2,y3⟩:=hgood 1 (by omega) (by omega)
  obtain ⟨z1,z2,z3⟩:=hgood 2 (by omega) (by omega)
  obtain ⟨w1,w2,w3⟩:=hgood 3 (by omega) (by omega)
  simp only [List.getElem_cons_zero,List.getElem_cons_succ] at x1 x2 x3 y1 y2 y3 z1 z2 z3 w1 w2 w3
  have ox:=OkT.of (Nice.of (hi x (by simp)) x1) x2
  have oy:=OkT.of (Nice.of (hi y (by simp)) y1) y2
  have oz:=OkT.of (Nice.of (hi z (by simp)) z1) z2
  have ow:=OkT.of (Nice.of (hi w (by simp)) w1) w2
  have nx:=few_n x1
  have ny:=few_n y1
  have nz:=few_n z1
  have nw:=few_n w1
  have px:=bq1 ox.may
  have pz:=bq1 oz.may
  have o1:=sum_ok ox oz nx nz (by omega) (by omega)
  have o2:=sum_ok oy ow ny nw (by omega) (by omega)
  have hnsum:x.n=y.n->z.n=w.n->(sumM x z).n=(sumM y w).n:=fun a b=>by show x.n+z.n=y.n+w.n;omega
  have g1:=fun h=>fqg (w0:=w0) ox oy h
  have g2:=fun h=>fqg (w0:=w0) oz ow h
  have g3:=fun a b=>fqg (w0:=w0) o1 o2 (hnsum a b)
  have hsum:∀ (a:x.n=y.n) (b:z.n=w.n),(maxS (sumM x z) (sumM y w)).l.length=(maxS x y).l.length+(maxS z w).l.length/\(maxS x y).l.length<=64/\(maxS z w).l.length<=64:=fun a b=>by
   have M1:=dqp ox oy a
   have M2:=dqp oz ow b
   exact ⟨sum_max o1 o2 M1 M2 (dqp o1 o2 (hnsum a b)),M1.len,M2.len⟩
  clear x1 x2 x3 y1 y2 y3 z1 z2 z3 w1 w2 w3 hgood o1 o2 hnsum ox oy oz ow hi hl
  have es1:mtA (sumM x z)= .agg [I 9,I (x.n+z.n),I 0,I 0,rows [],.sl (mtCs [x,z]) 2]:=rfl
  have es2:mtA (sumM y w)= .agg [I 9,I (y.n+w.n),I 0,I 0,rows [],.sl (mtCs [y,w]) 2]:=rfl
  rw [es1,es2] at g3
  clear es1 es2
  generalize (uF x y (maxS x y)).l=u1 at *
  generalize (uF z w (maxS z w)).l=u2 at *
  generalize (uF (sumM x z) (sumM y w) (maxS (sumM x z) (sumM y w))).l=u3 at *
  generalize (maxS x y).l=s1 at *
  generalize (maxS z w).l=s2 at *
  generalize (maxS (sumM x z) (sumM y w)).l=s3 at *
  obtain ⟨tx,nnx,ax,bx,lx,xx⟩:=x
  obtain ⟨ty,nny,ay,by',ly,xy⟩:=y
  obtain ⟨tz,nnz,az,bz,lz,xz⟩:=z
  obtain ⟨tw,nnw,aw,bw,lw,xw⟩:=w
  have ex:(Mtd.mk tx nnx ax bx lx xx).n=nnx:=rfl
  have ey:(Mtd.mk ty nny ay by' ly xy).n=nny:=rfl
  have ez:(Mtd.mk tz nnz az bz lz xz).n=nnz:=rfl
  have ew:(Mtd.mk tw nnw aw bw lw xw).n=nnw:=rfl
  rw [ex] at nx px
  rw [ey] at ny
  rw [ez] at nz pz
  rw [ew] at nw
  rw [ex,ey] at g1
  rw [ez,ew] at g2
  rw [ex,ey,ez,ew] at g3 hsum
  simp only [mtA,mtC,mtCs,List.cons_append,List.nil_append,List.append_nil] at g1 g2 g3 hE
  by_cases ea:nnx=nny
  rotate_left
  ·repeat'(with_reducible first|(refine sp (hK _ _ ?_);clear hK K)|refine vr [] fun K hK=>?_|(refine vd [] [53,55,57,59,63,65,67,69] mixed fun K hK=>?_)|((first|refine aqa fun K' hK'=>?_|refine aqb fun K' B hK' hB=>?_|refine aqn fun K' hK'=>?_|(apply bq8;refine aqt rfl fun K' hK'=>?_));simp[hE,boxes,Blk.isArr,aqg.refl,ea];repeat'(first|((first|refine hK' ?_|refine hB ?_);clear hK' hB K' B)|(apply hK';clear hK' K')|fail))|apply aqc|refine sp ?_|fail)
   exact ⟨by simp,.refl _⟩
  by_cases eb:nnz=nnw
  rotate_left
  ·repeat'(with_reducible first|(refine sp (hK _ _ ?_);clear hK K)|refine vr [] fun K hK=>?_|(refine vd [] [53,55,57,59,63,65,67,69] mixed fun K hK=>?_)|((first|refine aqa fun K' hK'=>?_|refine aqb fun K' B hK' hB=>?_|refine aqn fun K' hK'=>?_|(apply bq8;refine aqt rfl fun K' hK'=>?_));simp[hE,boxes,Blk.isArr,aqg.refl,ea,eb];repeat'(first|((first|refine hK' ?_|refine hB ?_);clear hK' hB K' B)|(apply hK';clear hK' K')|fail))|apply aqc|refine sp ?_|fail)
   exact ⟨by simp,.refl _⟩
  have g1:=g1 ea
  have g2:=g2 eb
  have g3:=g3 ea eb
  obtain ⟨q1,q2,q3⟩:=hsum ea eb
  have g3:=g3.sum2
  rw [show nny+nnw=nnx+nnz by omega] at g3
  have ea':=eq_true ea
  have eb':=eq_true eb
  have q1':=eq_true (show (s3.length:Int)=s1.length+s2.length by omega)
  repeat'(with_reducible first|(refine sp (hK _ _ ?_);clear hK K)|((fail_if_success(refine aql 10 ?_));(fail_if_success(refine(?_:AWP _ _ _ (Code.region 10 _ _) _ _ _)));refine vr [] fun K hK=>?_)|((fail_if_success(refine aql 10 ?_));(fail_if_success(refine(?_:AWP _ _ _ (Code.region 10 _ _) _ _ _)));refine vd [] [53,55,57,59,63,65,67,69] mixed fun K hK=>?_)|((first|refine aqa fun K' hK'=>?_|refine aqb fun K' B hK' hB=>?_|refine aqn fun K' hK'=>?_|(apply bq8;refine aqt rfl fun K' hK'=>?_));simp[hE,boxes,Blk.isArr,aqg.refl,ea',eb'];repeat'(first|((first|refine hK' ?_|refine hB ?_);clear hK' hB K' B)|(apply hK';clear hK' K')|fail))|((fail_if_success(refine aql 10 ?_));refine sp ?_)|fail)
  repeat'(with_reducible first|(refine sp (hK _ _ ?_);clear hK K)|((fail_if_success(refine aql 11 ?_));(fail_if_success(refine(?_:AWP _ _ _ (Code.region 11 _ _) _ _ _)));refine vd [] [73,75,77,79] mixed fun K hK=>?_)|(refine aqn fun K' hK'=>?_;simp[hE,boxes,Blk.isArr,aqg.refl];repeat'(first|(apply hK';clear hK' K')|refine And.intro ?_ ?_|(clear hK' K';omega)))|fail)
  refine iqj mixed h [] [83,84,86,87] [0,1,2,3,4,5,6,7,8,9,10] (Sub.refl _) (by kernel_rfl) (fun K hK=> ?_)
  simp only [List.filterMap_cons,List.filterMap_nil,List.getElem?_cons_succ,List.getElem?_cons_zero]
  have hz:zrep [.int .i64 0,.int .i64 0,.int .i64 0,.int .i64 0,.slice none 0 0,.slice none 0 0] 12=[I 0,I 0,I 0,I 0,.sc (.slice none 0 0),.sc (.slice none 0 0),I 0,I 0,I 0,I 0,.sc (.slice none 0 0),.sc (.slice none 0 0)]:=rfl
  repeat' (first
   | (with_reducible refine eg_nil (hK _ _ ?_);clear hK K)
   | (with_reducible refine nqp (fun K' hK'=> ?_);simp [hE,hz];repeat' (first | (with_reducible refine hK' _ _ ?_;clear hK' K') | (with_reducible refine And.intro ?_ ?_) | (with_reducible intro hg) | (clear hK' K';omega))))
  ·exact aqh hg
  ·exact ((Sub.refl _).upd hg _)
  rename_i r
  have hr:h r=none:=hg
  clear hg
  obtain ⟨H1,hH1⟩:∃ H1,H1=upd h r (some (.box [I 9,I (nnx+nnz),I 0,I 0,.sc (.slice none 0 0),.sl [I tx,I nnx,I ax,I bx,rows lx,.sl (mtCs xx) xx.length,I tz,I nnz,I az,I bz,rows lz,.sl (mtCs xz) xz.length] 2])):=⟨_,rfl⟩
  have hs1:Sub h H1:=by rw [hH1];exact aqh hr
  have lr:H1 r=some (.box [I 9,I (nnx+nnz),I 0,I 0,.sc (.slice none 0 0),.sl [I tx,I nnx,I ax,I bx,rows lx,.sl (mtCs xx) xx.length,I tz,I nnz,I az,I bz,rows lz,.sl (mtCs xz) xz.length] 2]):=by rw [hH1,aqj]
  rw [<-hH1]
  clear hH1
  refine iqj mixed H1 [] [92,93,95,96] [0,1,2,3,4,5,6,7,8,9,10] (Sub.refl _) (by kernel_rfl) (fun K hK=> ?_)
  simp only [List.filterMap_cons,List.filterMap_nil,List.getElem?_cons_succ,List.getElem?_cons_zero]
  repeat' (first
   | (with_reducible refine eg_nil (hK _ _ ?_);clear hK K)
   | (with_reducible refine nqp (fun K' hK'=> ?_);simp [hE,hz,ea',eb'];repeat' (first | (with_reducible refine hK' _ _ ?_;clear hK' K') | (with_reducible refine And.intro ?_ ?_) | (with_reducible intro hg) | (clear hK' K';omega))))
  ·exact aqh hg
  ·exact ((Sub.refl _).upd hg _)
  rename_i q
  have hqr:q≠r:=by rintro rfl;rw [lr] at hg;cases hg
  have hs2:=fun k=>hs1.trans (aqh (k:=some k) hg)
  have hrq:=Ne.symm hqr
  repeat'(with_reducible first|(refine sp (hK _ _ ?_);clear hK K)|((fail_if_success(refine aql 14 ?_));(fail_if_success(refine(?_:AWP _ _ _ (Code.region 14 _ _) _ _ _)));refine vd [] [101,102,104,105] mixed fun K hK=>?_)|(refine aqn fun K' hK'=>?_;simp[hE,boxes,Blk.isArr,aqg.refl];repeat'(first|(apply hK';clear hK' K')|(refine Ret.use g1 ?_;try simp[hE,boxes,Blk.isArr,aqg.refl])|fail))|fail)
  repeat'(with_reducible first|(refine sp (hK _ _ ?_);clear hK K)|((fail_if_success(refine aql 15 ?_));(fail_if_success(refine(?_:AWP _ _ _ (Code.region 15 _ _) _ _ _)));refine vd [] [112,113,115,116] mixed fun K hK=>?_)|(refine aqn fun K' hK'=>?_;simp[hE,boxes,Blk.isArr,aqg.refl];repeat'(first|(apply hK';clear hK' K')|(refine Ret.use g2 ?_;try simp[hE,boxes,Blk.isArr,aqg.refl])|fail))|fail)
  repeat'(with_reducible first|(refine sp (hK _ _ ?_);clear hK K)|refine vr [] fun K hK=>?_|((first|refine aqa fun K' hK'=>?_|(apply aqk;refine aqe rfl fun K' hK'=>?_));simp[hE,lr,hqr,hrq,q1'];repeat'(first|(apply hK';clear hK' K')|refine Ret.use g3 ?_|refine And.intro ?_ ?_|(clear hK' K';omega)))|apply aqc|refine sp ?_|fail)
  exact ⟨by simp,hs2 _⟩
end Go.Am
