/- Contracts and plain laws that the law InterTurnsG needs, part 13. -/
import Derived.Test.YtcdcombogmflkaaGreatDoorZInterTurnsG12
namespace Go.Am
open Go Go.RowKit Go.ChangeShapes Go.WideShapes Go.Deep
set_option linter.unusedVariables false
section
variable {H:Type} {enc:TypeId×Value->H} {P:Program} {w0:World}
theorem mtCs_flat (xs:List Mtd):xs.flatMap mtC=mtCs xs:=by
 induction xs with
 | nil=>rfl
 | cons x xs ih=>rw [List.flatMap_cons,ih,mtCs]
theorem mtC_one:∀ (m:Mtd) a,a∈mtC m->a.one=true:=by
 intro m a h
 obtain ⟨t,n,a',b,l,xs⟩:=m
 simp only [mtC,List.mem_cons,List.not_mem_nil,or_false] at h
 rcases h with rfl | rfl | rfl | rfl | rfl | rfl<;>rfl
theorem fqq {t:TypeId} {f0 f1 f2 f3 f4 f5:Field} {Q4:List (List Int)->Prop}
  (ht:P.underlying t=some (.struct #[f0,f1,f2,f3,f4,f5])) (e0:f0.offset=0) (e1:f1.offset=1) (e2:f2.offset=2) (e3:f3.offset=3) (e4:f4.offset=4) (e5:f5.offset=5) (hc:P.cellsOf t=6) (hb:P.bytesOf t=80)
  (c0:P.cellsOf f0.type=1) (c1:P.cellsOf f1.type=1) (c2:P.cellsOf f2.type=1) (c3:P.cellsOf f3.type=1) (c4:P.cellsOf f4.type=1) (c5:P.cellsOf f5.type=1)
  (u0:P.underlying f0.type=some (.int .i64)) (u1:P.underlying f1.type=some (.int .i64)) (u2:P.underlying f2.type=some (.int .i64)) (u3:P.underlying f3.type=some (.int .i64))
  (o4:iq4 H enc P w0 f4.type (fun l:List (List Int)=>[rows l]) Q4) (hQ:∀ l,Q4 l->aqz l/\∀ r∈l,aqz r) (u5:P.underlying f5.type=some (.slice t)):
  iq4 H enc P w0 t mtC LenM:=by
 have key:∀ (N:Nat) (d:DataW H),SizeOf.sizeOf d<N->∀ fuel cs ps,DataW.trod enc P w0 0 (fun _=>true) true fuel t cs=some (d,ps)->(∀ n∈d.weights P t,n<=reachBytes)->
   ∃ x:Mtd,VRL (FW w0) MW (mtC x) cs/\(∀ a∈mtC x,a.one=true)/\LenM x:=by
  intro N
  induction N with
  | zero=>intro d h;omega
  | succ N ih=>
   intro d hd fuel cs ps hf hw
   obtain ⟨xs,n,rfl,hx,hl,hn,hel⟩:=DataW.trod_struct ht hf
   rw [hc] at hl
   match cs,hl with
   | [a0,a1,a2,a3,a4,a5],_=>
   match xs,hn with
   | [x0,x1,x2,x3,x4,x5],_=>
   have h0:=hel 0 f0 rfl
   have h1:=hel 1 f1 rfl
   have h2:=hel 2 f2 rfl
   have h3:=hel 3 f3 rfl
   have h4:=hel 4 f4 rfl
   have h5:=hel 5 f5 rfl
   rw [e0,c0] at h0
   rw [e1,c1] at h1
   rw [e2,c2] at h2
   rw [e3,c3] at h3
   rw [e4,c4] at h4
   rw [e5,c5] at h5
   have hde:d= .agg [x0.1,x1.1,x2.1,x3.1,x4.1,x5.1]:=congrArg Prod.fst hx
   subst hde
   have hwt:(DataW.agg [x0.1,x1.1,x2.1,x3.1,x4.1,x5.1]).weights P t=x0.1.weights P f0.type++(x1.1.weights P f1.type++(x2.1.weights P f2.type++(x3.1.weights P f3.type++(x4.1.weights P f4.type++(x5.1.weights P f5.type++[]))))):=by
    rw [DataW.weights,ht]
    rfl
   rw [hwt] at hw
   obtain ⟨y0,r0,s0,q0⟩:=fqr u0 n [a0] x0.1 x0.2 h0 (fun k hk=>hw k (by simp [hk]))
   obtain ⟨y1,r1,s1,q1⟩:=fqr u1 n [a1] x1.1 x1.2 h1 (fun k hk=>hw k (by simp [hk]))
   obtain ⟨y2,r2,s2,q2⟩:=fqr u2 n [a2] x2.1 x2.2 h2 (fun k hk=>hw k (by simp [hk]))
   obtain ⟨y3,r3,s3,q3⟩:=fqr u3 n [a3] x3.1 x3.2 h3 (fun k hk=>hw k (by simp [hk]))
   obtain ⟨y4,r4,s4,q4⟩:=o4 n [a4] x4.1 x4.2 h4 (fun k hk=>hw k (by simp [hk]))
   have hsz:SizeOf.sizeOf x5.1<N:=by
    simp only [DataW.agg.sizeOf_spec,List.cons.sizeOf_spec,List.nil.sizeOf_spec] at hd
    omega
   obtain ⟨y5,r5,s5,q5,p5⟩:=gqn (f:=mtC) (Q:=LenM) u5 (by omega) h5 (fun k hk=>hw k (by simp [hk]))
    (fun fuel' cs' d' ps' hlt h' hw'=>ih d' (by omega) fuel' cs' ps' h' hw')
   rw [hb] at q5
   unfold reachBytes at q5
   obtain ⟨k1,k2⟩:=hQ y4 q4
   refine ⟨.mk y0 y1 y2 y3 y4 y5,?_,mtC_one _,.mk k1 k2 (by unfold aqz;omega) p5⟩
   rw [mtC,<-mtCs_flat]
   exact .cons r0.one' (.cons r1.one' (.cons r2.one' (.cons r3.one' (.cons r4.one' r5))))
 intro fuel cs d ps hf hw
 exact key _ d (Nat.lt_succ_self _) fuel cs ps hf hw
theorem nqx {t:TypeId} (hs:∃ fs,P.underlying t=some (.struct fs)) (h:iq4 H enc P w0 t mtC LenM):cqf H enc P w0 t mtA LenM:=by
 obtain ⟨fs,ht⟩:=hs
 intro base v d ps htr hok hw
 obtain ⟨fuel,hf⟩:=htr
 unfold Value.okWide at hok
 rw [ht] at hok
 obtain ⟨cs,rfl,hsz,_⟩:=hok
 obtain ⟨x,h1,h2,h3⟩:=h fuel cs.toList d ps hf hw
 refine ⟨x,?_,h3⟩
 have hv:=h1.2
 have hl:=h1.1
 refine .agg (fun i=>cs.getD i .nilIface) ?_ (fun i av hi=> ?_) (fun i av hi=> ?_) (fun i av hi=>h2 av (List.mem_of_getElem? hi))
 ·rw [hl];simp
 ·have hi':i<cs.size:=by have:=(List.getElem?_eq_some_iff.1 hi).1;rw [hl] at this;simpa using this
  simp [hi']
 ·have hi':i<cs.size:=by have:=(List.getElem?_eq_some_iff.1 hi).1;rw [hl] at this;simpa using this
  exact hv i av _ hi (by simp [hi'])
theorem arg_mats {t u:TypeId} (ht:P.underlying t=some (.slice u)) (h:iq4 H enc P w0 u mtC LenM) (hc:P.cellsOf u=6) (hb:P.bytesOf u=80):
  cqf H enc P w0 t (fun l:List Mtd=> .sl (mtCs l) l.length) (fun l=>aqz l/\∀ x∈l,LenM x):=by
 refine cqf.map id (arg_slice ht h (by omega)) (fun l hq=>by rw [mtCs_flat];rfl) (fun l hq=> ?_)
 rw [hb] at hq
 unfold reachBytes at hq
 refine ⟨?_,hq.2⟩
 have:=hq.1
 show l.length<=_
 omega
end
end Go.Am
