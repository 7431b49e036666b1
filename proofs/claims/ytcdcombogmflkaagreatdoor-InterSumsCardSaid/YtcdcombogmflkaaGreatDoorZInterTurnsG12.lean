/- Contracts and plain laws that the law InterTurnsG needs, part 12. -/
import Derived.Test.YtcdcombogmflkaaGreatDoorZInterTurnsG11
import Derived.JoinedOf
namespace Go.Am
open Go
theorem mqr {s : String} {l : List Char} (h : s = String.ofList l) (k : behindMainWord (wordsSigns l) = "cut".toList :: (wordsSigns l).drop 3) : ∃ r, behindMainWord (wordsSigns s.toList) = "cut".toList :: r := by
 subst h;rw [String.toList_ofList];exact ⟨_,k⟩
theorem strip_cut (r : List (List Char)) : stripLifts liftWords ("cut".toList :: r) = ([], "cut".toList :: r) := by
 have h : ∀ l : List String, (l.all fun o => !("cut".toList == o.toList)) = true → stripLifts l ("cut".toList :: r) = ([], "cut".toList :: r) := by
  intro l
  induction l with
  | nil=>intro _;rfl
  | cons o l ih=>
   intro h
   simp only [List.all_cons,Bool.and_eq_true,Bool.not_eq_true'] at h
   rw [stripLifts,if_neg (by rw [h.1];decide)]
   exact ih h.2
 exact h _ (by decide +kernel)
section
variable {P : Program} (h : ∃ r, behindMainWord (wordsSigns P.initOrder.toList) = "cut".toList :: r)
include h
theorem nqi:P.headLifts=[]:=by
 obtain ⟨r,h⟩:=h
 unfold Program.headLifts
 rw [h,strip_cut]
 rfl
theorem mq9:P.make=some .cut:=by
 obtain ⟨r,h⟩:=h
 unfold Program.make
 rw [h]
 simp
theorem eqk:P.liftsFinal=false:=by
 have h0:=nqi h
 obtain ⟨r,h⟩:=h
 unfold Program.liftsFinal
 rw [h0,h]
 simp
end
end Go.Am
namespace Go.Am
open Go Go.RowKit Go.ChangeShapes Go.WideShapes Go.Deep
set_option linter.unusedVariables false
section
variable {H:Type} {enc:TypeId×Value->H} {P:Program} {w0:World}
def cqf (H:Type) (enc:TypeId×Value->H) (P:Program) (w0:World) (t:TypeId) {α:Type} (g:α->AV) (Q:α->Prop):Prop:=
 ∀ base v (d:DataW H) ps,DataW.Trod enc P w0 0 (fun _=>true) true t v d ps->Value.okWide P w0 .any base t v->(∀ n∈d.weights P t,n<=reachBytes)->∃ x,VR (FW w0) MW (g x) v/\Q x
theorem VRL.one' {F:Ft} {M:Mt} {a:AV} {v:Value} (h:VRL F M [a] [v]):VR F M a v:=h.2 0 a v rfl rfl
theorem cqf.one {t:TypeId} {α:Type} {g:α->AV} {Q:α->Prop} (h:iq4 H enc P w0 t (fun x=>[g x]) Q) (hv:∀ base v,Value.okWide P w0 .any base t v->v.cells= #[v]):cqf H enc P w0 t g Q:=by
 intro base v d ps ht hok hw
 obtain ⟨fuel,hf⟩:=ht
 obtain ⟨x,h1,_,h3⟩:=h fuel _ d ps hf hw
 rw [hv base v hok] at h1
 exact ⟨x,h1.one',h3⟩
theorem arg_slice {t e:TypeId} {α:Type} [Inhabited α] {f:α->List AV} {Q:α->Prop} (ht:P.underlying t=some (.slice e)) (he:iq4 H enc P w0 e f Q) (hc:0<P.cellsOf e):
  cqf H enc P w0 t (fun l:List α=> .sl (l.flatMap f) l.length) (fun l=>l.length*P.bytesOf e<=reachBytes/\∀ x∈l,Q x):=
 cqf.one (gqv ht he hc) fun base v h=>by obtain ⟨a,l,c,rfl⟩:=okWide_slice ht h;rfl
theorem cqf.map {t:TypeId} {α β:Type} {f:α->AV} {Q:α->Prop} {g:β->AV} {R:β->Prop} (u:α->β) (h:cqf H enc P w0 t f Q) (hf:∀ x,Q x->g (u x)=f x) (hq:∀ x,Q x->R (u x)):cqf H enc P w0 t g R:=by
 intro base v d ps ht ho hw
 obtain ⟨x,h1,h2⟩:=h base v d ps ht ho hw
 exact ⟨u x,by rw [hf x h2];exact h1,hq x h2⟩
theorem opens_ints {t e:TypeId} (ht:P.underlying t=some (.slice e)) (he:P.underlying e=some (.int .i64)) (hc:0<P.cellsOf e) (hb:P.bytesOf e=8):
  iq4 H enc P w0 t (fun l:List Int=>[ints l]) (fun l=>l.length<=17592186044416/\∀ x∈l,(Lit.int .i64 x).wf=true):=by
 refine opens_map id (gqv ht (fqr he) hc) (fun l h=> ?_) (fun l h=> ?_)
 ·have:(l.flatMap fun n=>[I n])=l.map I:=by clear h;induction l<;>simp_all
  simp only [id,ints,<-this]
 ·rw [hb] at h
  unfold reachBytes at h
  refine ⟨?_,h.2⟩
  show l.length<=_
  have:=h.1
  omega
theorem eqr {t u e:TypeId} (ht:P.underlying t=some (.slice u)) (hu:P.underlying u=some (.slice e)) (he:P.underlying e=some (.int .i64)) (hc:0<P.cellsOf e) (hb:P.bytesOf e=8) (hcu:0<P.cellsOf u) (hbu:P.bytesOf u=24):
  iq4 H enc P w0 t (fun l:List (List Int)=>[rows l]) (fun l=>l.length<=17592186044416/\∀ p∈l,p.length<=17592186044416/\∀ x∈p,(Lit.int .i64 x).wf=true):=by
 refine opens_map id (gqv ht (opens_ints hu he hc hb) hcu) (fun l h=> ?_) (fun l h=> ?_)
 ·have:(l.flatMap fun n=>[ints n])=l.map ints:=by clear h;induction l<;>simp_all
  simp only [id,rows,<-this]
 ·rw [hbu] at h
  unfold reachBytes at h
  refine ⟨?_,h.2⟩
  show l.length<=_
  have:=h.1
  omega
theorem Ret.walks {n:FuncId} {args:List AV} (h:Ret P w0 n args (B true)):aqo P w0 n args HW (fun v _=>v=B true):=h.use rfl
section
variable {n:FuncId} {t1 t2 t3 t4:TypeId} {α β γ δ:Type} {g1:α->AV} {g2:β->AV} {g3:γ->AV} {g4:δ->AV} {Q1:α->Prop} {Q2:β->Prop} {Q3:γ->Prop} {Q4:δ->Prop}
theorem walks1 (h1:∀ w0,cqf H enc P w0 t1 g1 Q1) (k:∀ w0 x,Q1 x->Ret P w0 n [g1 x] (B true)):Walks H enc P n [t1]:=by
 intro w0 base cargs ds ps hA hval hz
 obtain ⟨v0,vs0,d0,ds0,p0,q0,hargs,rfl,rfl,a0,r0⟩:=trodAll_cons hA
 obtain ⟨rfl,rfl,rfl⟩:=trodAll_nil r0
 obtain rfl:cargs= #[v0]:=Array.ext' hargs
 obtain ⟨x,e1,q1⟩:=h1 w0 base v0 d0 p0 a0 (hval 0 _ v0 (by simp) (by simp)) (fun n hn=>hz n (by simp [DataW.weightsEach,hn]))
 exact ⟨[g1 x],.cons e1 .nil,(k w0 x q1).walks⟩
theorem walks2 (h1:∀ w0,cqf H enc P w0 t1 g1 Q1) (h2:∀ w0,cqf H enc P w0 t2 g2 Q2) (k:∀ w0 x y,Q1 x->Q2 y->Ret P w0 n [g1 x,g2 y] (B true)):Walks H enc P n [t1,t2]:=by
 intro w0 base cargs ds ps hA hval hz
 obtain ⟨v0,vs0,d0,ds0,p0,q0,hargs,rfl,rfl,a0,r0⟩:=trodAll_cons hA
 obtain ⟨v1,vs1,d1,ds1,p1,q1,rfl,rfl,rfl,a1,r1⟩:=trodAll_cons r0
 obtain ⟨rfl,rfl,rfl⟩:=trodAll_nil r1
 obtain rfl:cargs= #[v0,v1]:=Array.ext' hargs
 obtain ⟨x,e1,q1⟩:=h1 w0 base v0 d0 p0 a0 (hval 0 _ v0 (by simp) (by simp)) (fun n hn=>hz n (by simp [DataW.weightsEach,hn]))
 obtain ⟨y,e2,q2⟩:=h2 w0 base v1 d1 p1 a1 (hval 1 _ v1 (by simp) (by simp)) (fun n hn=>hz n (by simp [DataW.weightsEach,hn]))
 exact ⟨[g1 x,g2 y],.cons e1 (.cons e2 .nil),(k w0 x y q1 q2).walks⟩
end
end
end Go.Am
