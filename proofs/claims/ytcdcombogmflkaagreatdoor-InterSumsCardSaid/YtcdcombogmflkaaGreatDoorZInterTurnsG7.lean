/- Contracts and plain laws that the law InterTurnsG needs, part 7. -/
import Derived.Test.YtcdcombogmflkaaGreatDoorZInterTurnsG6
namespace Go.Am
set_option linter.unusedVariables false
set_option linter.unusedSimpArgs false
open FS
inductive Mtd where
 | mk (tag n a b:Int) (list:List (List Int)) (inner:List Mtd)
namespace Mtd
instance:Inhabited Mtd:=⟨.mk 0 0 0 0 [] []⟩
def tag:Mtd->Int | .mk t _ _ _ _ _=>t
def n:Mtd->Int | .mk _ n _ _ _ _=>n
def a:Mtd->Int | .mk _ _ a _ _ _=>a
def b:Mtd->Int | .mk _ _ _ b _ _=>b
def list:Mtd->List (List Int) | .mk _ _ _ _ l _=>l
def inner:Mtd->List Mtd | .mk _ _ _ _ _ xs=>xs
theorem ind {P:Mtd->Prop} (h:∀ t n a b l xs,(∀ x∈xs,P x)->P (.mk t n a b l xs)):∀ m,P m:=fun m=>
 Mtd.rec (motive_1:=P) (motive_2:=fun xs=>∀ x∈xs,P x) (fun t n a b l xs ih=>h t n a b l xs ih) (by simp) (fun x xs h1 h2 y hy=>by
  rcases List.mem_cons.1 hy with rfl | hy
  ·exact h1
  ·exact h2 y hy) m
end Mtd
def img (l:List Int) (s:FS):FS:=ofList (s.l.filterMap fun x=>if 0<=x then l[x.toNat]? else none)
theorem fqy {l:List Int} {s:FS} {y:Int}:y∈img l s↔∃ x,x∈s/\0<=x/\l[x.toNat]? =some y:=by
 simp only [img,FS.mem_ofList,List.mem_filterMap]
 constructor
 ·rintro ⟨x,hx,e⟩
  by_cases h:0<=x
  ·rw [if_pos h] at e;exact ⟨x,hx,h,e⟩
  ·rw [if_neg h] at e;cases e
 ·rintro ⟨x,hx,h,e⟩;exact ⟨x,hx,by rw [if_pos h];exact e⟩
theorem im_img (l:List Int):Rk.Im (img l):=by
 refine ⟨FS.ext fun y=>by rw [fqy];simp,fun x=> ?_⟩
 by_cases h:0<=x/\∃ y,l[x.toNat]? =some y
 ·obtain ⟨h0,y,hy⟩:=h
  refine .inr ⟨y,fun s=>FS.ext fun z=> ?_⟩
  rw [fqy,FS.mem_insert,fqy]
  constructor
  ·rintro ⟨w,hw,h1,h2⟩
   rcases FS.mem_insert.1 hw with rfl | hw
   ·rw [hy] at h2;exact .inl (Option.some.inj h2).symm
   ·exact .inr ⟨w,hw,h1,h2⟩
  ·rintro (rfl | ⟨w,hw,h1,h2⟩)
   ·exact ⟨x,FS.mem_insert.2 (.inl rfl),h0,hy⟩
   ·exact ⟨w,FS.mem_insert.2 (.inr hw),h1,h2⟩
 ·refine .inl fun s=>FS.ext fun z=> ?_
  rw [fqy,fqy]
  constructor
  ·rintro ⟨w,hw,h1,h2⟩
   rcases FS.mem_insert.1 hw with rfl | hw
   ·exact absurd ⟨h1,z,h2⟩ h
   ·exact ⟨w,hw,h1,h2⟩
  ·rintro ⟨w,hw,h1,h2⟩;exact ⟨w,FS.mem_insert.2 (.inr hw),h1,h2⟩
def shf (f n:Int) (s:FS):FS:=ofList (s.l.filterMap fun x=>if f<=x/\x<f+n then some (x-f) else none)
theorem dqi {f n:Int} {s:FS} {y:Int}:y∈shf f n s↔0<=y/\y<n/\y+f∈s:=by
 simp only [shf,FS.mem_ofList,List.mem_filterMap]
 constructor
 ·rintro ⟨x,hx,e⟩
  by_cases h:f<=x/\x<f+n
  ·rw [if_pos h] at e;cases e;exact ⟨by omega,by omega,by rwa [show x-f+f=x by omega]⟩
  ·rw [if_neg h] at e;cases e
 ·rintro ⟨h1,h2,h3⟩;exact ⟨_,h3,by rw [if_pos (by omega)];congr 1;omega⟩
theorem shf_in {f n x:Int} (h:f<=x/\x<f+n) (s:FS):shf f n (insert x s)=insert (x-f) (shf f n s):=FS.ext fun y=>by
 rw [dqi,FS.mem_insert,FS.mem_insert,dqi]
 constructor
 ·rintro ⟨h1,h2,h3 | h3⟩
  ·exact .inl (by omega)
  ·exact .inr ⟨h1,h2,h3⟩
 ·rintro (h1 | ⟨h1,h2,h3⟩)
  ·exact ⟨by omega,by omega,.inl (by omega)⟩
  ·exact ⟨h1,h2,.inr h3⟩
theorem shf_out {f n x:Int} (h:¬(f<=x/\x<f+n)) (s:FS):shf f n (insert x s)=shf f n s:=FS.ext fun y=>by
 rw [dqi,dqi,FS.mem_insert]
 constructor
 ·rintro ⟨h1,h2,h3 | h3⟩
  ·exact absurd (by omega) h
  ·exact ⟨h1,h2,h3⟩
 ·rintro ⟨h1,h2,h3⟩;exact ⟨h1,h2,.inr h3⟩
theorem im_shf (f n:Int):Rk.Im (shf f n):=by
 refine ⟨FS.ext fun y=>by rw [dqi];simp,fun x=> ?_⟩
 by_cases h:f<=x/\x<f+n
 ·exact .inr ⟨_,shf_in h⟩
 ·exact .inl (shf_out h)
def cmpl (n:Int) (l:List Int):List Int:=(upto n.toNat).filter fun x=> !decide (x∈l)
def aq2 (cls:List Int) (c:Int) (s:FS):FS:=s.filter fun x=>decide (0<=x/\cls[x.toNat]? =some c)
theorem iqt {cls:List Int} {c x:Int} (h:0<=x/\cls[x.toNat]? =some c) (s:FS):aq2 cls c (insert x s)=insert x (aq2 cls c s):=FS.ext fun y=>by
 simp only [aq2,FS.mem_filter,FS.mem_insert,decide_eq_true_eq]
 grind
theorem dq3 {cls:List Int} {c x:Int} (h:¬(0<=x/\cls[x.toNat]? =some c)) (s:FS):aq2 cls c (insert x s)=aq2 cls c s:=FS.ext fun y=>by
 simp only [aq2,FS.mem_filter,FS.mem_insert,decide_eq_true_eq]
 grind
def paR (cls:List Int):List Int->Int->FS->Nat
 | [],_,_=>0
 | k::ks,c,s=>min (aq2 cls c s).card k.toNat+paR cls ks (c+1) s
theorem paR_out {cls:List Int} (ks:List Int):∀ {c:Int} {x:Int},(∀ d,c<=d->¬(0<=x/\cls[x.toNat]? =some d))->∀ s,paR cls ks c (insert x s)=paR cls ks c s:=by
 induction ks with
 | nil=>intros;rfl
 | cons k ks ih=>
  intro c x h s
  rw [paR,paR,dq3 (h c (Int.le_refl _)),ih fun d hd=>h d (by omega)]
theorem pa_rk (cls:List Int) (ks:List Int):∀ c,Rk (paR cls ks c):=by
 induction ks with
 | nil=>intro c;exact Rk.zero
 | cons k ks ih=>
  intro c
  have h1:Rk (fun s=>min (aq2 cls c s).card k.toNat):=by
   refine Rk.trunc (r:=fun s=>(aq2 cls c s).card) (Rk.free.pull (f:=aq2 cls c) ⟨FS.ext fun y=>by simp [aq2],fun x=> ?_⟩) _
   by_cases h:0<=x/\cls[x.toNat]? =some c
   ·exact .inr ⟨x,iqt h⟩
   ·exact .inl (dq3 h)
  refine h1.add (ih (c+1)) fun x=> ?_
  by_cases h:0<=x/\cls[x.toNat]? =some c
  ·refine .inr (paR_out ks fun d hd k=> ?_)
   have:=h.2.symm.trans k.2
   injection this;omega
  ·exact .inl fun s=>by simp only [dq3 h]
def nH:List Mtd->Int
 | []=>0
 | x::_=>x.n
mutual
noncomputable def rkM:Mtd->FS->Nat
 | .mk t n a b l xs,s=>
  let s:=s∩upTo n.toNat
  if t=5 then rkH xs (img (l.getD 0 []) s)
  else if t=6 then rkH xs (img (cmpl (nH xs) (l.getD 0 [])) s∪ofList (l.getD 0 []))-rkH xs (ofList (l.getD 0 []))
  else if t=7 then min (rkH xs s) a.toNat
  else if t=8 then (s∩upTo n.toNat).card+rkH xs (upTo n.toNat \ s)-rkH xs (upTo n.toNat)
  else if t=9 then rkS xs 0 s
  else if t=1 then grR l s
  else if t=2 then paR (l.getD 0 []) (l.getD 1 []) 0 s
  else if t=3 then trR l s
  else if t=4 then Clo.rk (LinC b a.toNat l) s
  else min s.card a.toNat
noncomputable def rkH:List Mtd->FS->Nat
 | [],_=>0
 | x::_,s=>rkM x s
noncomputable def rkS:List Mtd->Int->FS->Nat
 | [],_,_=>0
 | x::xs,f,s=>rkM x (shf f x.n s)+rkS xs (f+x.n) s
end
inductive OkM:Mtd->Prop
 | mk {t n a b:Int} {l:List (List Int)} {xs:List Mtd} (hg:t=1->∀ r∈l,(r.getD 0 0).toNat<a.toNat/\(r.getD 1 0).toNat<a.toNat) (hl:t=4->∀ u:Int,¬b ∣ u->∃ v,b ∣ u*v-1)
   (hn:∀ x∈xs,0<=x.n) (hx:∀ x∈xs,OkM x):OkM (.mk t n a b l xs)
theorem rkS_out (xs:List Mtd):∀ {f x:Int},(∀ y∈xs,0<=y.n)->x<f->∀ s,rkS xs f (insert x s)=rkS xs f s:=by
 induction xs with
 | nil=>intros;simp [rkS]
 | cons m xs ih=>
  intro f x hn h s
  have:=hn m (by simp)
  rw [rkS,rkS,shf_out (by omega),ih (fun y hy=>hn y (by simp [hy])) (by omega)]
theorem rkM_rk:∀ m,OkM m->Rk (rkM m):=by
 refine Mtd.ind fun t n a b l xs ih h=> ?_
 obtain ⟨hg,hl,hn,hx⟩:=h
 have hH:Rk (rkH xs):=by
  cases xs with
  | nil=>exact Rk.zero
  | cons x xs=>
   have:=ih x (by simp) (hx x (by simp))
   exact ⟨by simp [rkH,this.r0],fun y s=>by simp only [rkH];exact this.one y s,fun y z s=>by simp only [rkH];exact this.sub y z s⟩
 have hS:∀ f,Rk (rkS xs f):=by
  clear hH hg hl
  induction xs with
  | nil=>intro f;exact ⟨by simp [rkS],fun y s=>by simp [rkS],fun y z s=>by simp [rkS]⟩
  | cons x xs ih2=>
   intro f
   have h1:=(ih x (by simp) (hx x (by simp))).pull (im_shf f x.n)
   have h2:=ih2 (fun y hy=>ih y (by simp [hy])) (fun y hy=>hn y (by simp [hy])) (fun y hy=>hx y (by simp [hy])) (f+x.n)
   have h3:=h1.add h2 fun y=>by
    by_cases hy:f<=y/\y<f+x.n
    ·exact .inr (rkS_out xs (fun z hz=>hn z (by simp [hz])) hy.2)
    ·exact .inl fun s=>by simp only [shf_out hy]
   exact ⟨by simpa [rkS] using h3.r0,fun y s=>by simpa only [rkS] using h3.one y s,fun y z s=>by simpa only [rkS] using h3.sub y z s⟩
 have core:∀ r:FS->Nat,Rk r->(∀ s,rkM (.mk t n a b l xs) s=r (s∩upTo n.toNat))->Rk (rkM (.mk t n a b l xs)):=fun r hr e=>by
  rw [show rkM (.mk t n a b l xs)=fun s=>r (s∩upTo n.toNat) from funext e]
  exact hr.cut _
 by_cases e5:t=5
 ·exact core _ (hH.pull (im_img (l.getD 0 []))) fun s=>by rw [rkM];simp [e5]
 by_cases e6:t=6
 ·exact core _ ((hH.contract (ofList (l.getD 0 []))).pull (im_img (cmpl (nH xs) (l.getD 0 [])))) fun s=>by rw [rkM];simp [e6]
 by_cases e7:t=7
 ·exact core _ (hH.trunc a.toNat) fun s=>by rw [rkM];simp [e7]
 by_cases e8:t=8
 ·exact core _ (hH.dual (upTo n.toNat)) fun s=>by rw [rkM];simp [e8]
 by_cases e9:t=9
 ·exact core _ (hS 0) fun s=>by rw [rkM];simp [e9]
 by_cases e1:t=1
 ·exact core _ (gr_rk (hg e1)) fun s=>by rw [rkM];simp [e1]
 by_cases e2:t=2
 ·exact core _ (pa_rk (l.getD 0 []) (l.getD 1 []) 0) fun s=>by rw [rkM];simp [e2]
 by_cases e3:t=3
 ·exact core _ (tr_rk (adj:=l)) fun s=>by rw [rkM];simp [e3]
 by_cases e4:t=4
 ·exact core _ (linC (n:=a.toNat) (hl e4) l).rank fun s=>by rw [rkM];simp [e4]
 ·exact core _ (Rk.free.trunc a.toNat) fun s=>by rw [rkM];simp [e1,e2,e3,e4,e5,e6,e7,e8,e9]
end Go.Am
namespace Go.Am
open Go Go.Proofs
set_option linter.unusedVariables false
set_option linter.unusedSimpArgs false
variable {w0:World}
attribute [local irreducible] AWP aqo
attribute [local congr] aqp
mutual
def mtC:Mtd->List AV
 | .mk t n a b l xs=>[I t,I n,I a,I b,rows l,.sl (mtCs xs) xs.length]
def mtCs:List Mtd->List AV
 | []=>[]
 | x::xs=>mtC x++mtCs xs
end
def mtA (m:Mtd):AV:= .agg (mtC m)
theorem cqh (m:Mtd):(mtC m).length=6:=by cases m;rfl
theorem dqb (xs:List Mtd):(mtCs xs).length=xs.length*6:=by
 induction xs with
 | nil=>rfl
 | cons x xs ih=>rw [mtCs,List.length_append,cqh,ih,List.length_cons];omega
theorem dq1 {xs:List Mtd} {k:Nat} (h:k<xs.length):((mtCs xs).drop (k*6)).take 6=mtC xs[k]:=by
 induction xs generalizing k with
 | nil=>simp at h
 | cons x xs ih=>
  cases k with
  | zero=>rw [mtCs,Nat.zero_mul,List.drop_zero,List.take_append_of_le_length (by rw [cqh];omega),List.take_of_length_le (by rw [cqh];omega)];rfl
  | succ k=>
   rw [mtCs,show (k+1)*6=(mtC x).length+k*6 by rw [cqh];omega,List.drop_length_add_append]
   exact ih (by simpa using h)
inductive LenM:Mtd->Prop
 | mk {t n a b:Int} {l:List (List Int)} {xs:List Mtd} (hl:aqz l) (hr:∀ r∈l,aqz r) (hx:aqz xs) (hi:∀ x∈xs,LenM x):LenM (.mk t n a b l xs)
theorem lqq {t:Int}:Ret Tryz.prog w0 119 [I t] (B (decide (5<=t/\t<=9))):=by
 intro H
 refine aqf Tryz.func119 rfl Tryz.ntmps119 (ts:=[2]) rfl (by simp) (by kernel_rfl) ?_
 by_cases h1:5<=t
 ·by_cases h2:t<=9
  ·repeat'(with_reducible first|(refine aqd (hK _ _ ?_);clear hK K)|refine vr [] fun K hK=>?_|((first|refine aqa fun K' hK'=>?_|(apply aqk;refine aqe rfl fun K' hK'=>?_));simp[h1,h2];repeat'(first|(apply hK';clear hK' K')|fail))|apply aqc|refine sp ?_|fail)
   exact ⟨by simp [h1,h2],.refl _⟩
  ·repeat'(with_reducible first|(refine aqd (hK _ _ ?_);clear hK K)|refine vr [] fun K hK=>?_|((first|refine aqa fun K' hK'=>?_|(apply aqk;refine aqe rfl fun K' hK'=>?_));simp[h1,h2];repeat'(first|(apply hK';clear hK' K')|fail))|apply aqc|refine sp ?_|fail)
   exact ⟨by simp [h2],.refl _⟩
 ·repeat'(with_reducible first|(refine aqd (hK _ _ ?_);clear hK K)|refine vr [] fun K hK=>?_|((first|refine aqa fun K' hK'=>?_|(apply aqk;refine aqe rfl fun K' hK'=>?_));simp[h1];repeat'(first|(apply hK';clear hK' K')|fail))|apply aqc|refine sp ?_|fail)
  exact ⟨by simp [h1],.refl _⟩
mutual
def bqm:Mtd->Nat->Nat
 | .mk t _ _ _ _ xs,k=>(if 0<k/\5<=t/\t<=9 then bqb xs (k-1) else 0)+1
def bqb:List Mtd->Nat->Nat
 | [],_=>0
 | x::xs,k=>max (bqm x k) (bqb xs k)
end
theorem lq9 (xs:List Mtd) (x:Mtd) (k:Nat):bqb (xs++[x]) k=max (bqb xs k) (bqm x k):=by
 induction xs with
 | nil=>simp [bqb]
 | cons y xs ih=>rw [List.cons_append,bqb,bqb,ih];omega
theorem iqc:∀ m k,bqm m k<=k+1:=by
 refine Mtd.ind fun t n a b l xs ih k=> ?_
 rw [bqm]
 split
 ·rename_i h
  have:∀ ys:List Mtd,(∀ y∈ys,y∈xs)->bqb ys (k-1)<=k:=by
   intro ys
   induction ys with
   | nil=>intro _;simp [bqb]
   | cons y ys ih2=>
    intro hy
    have:=ih y (hy y (by simp)) (k-1)
    have:=ih2 fun z hz=>hy z (by simp [hz])
    rw [bqb];omega
  have:=this xs fun y h=>h
  omega
 ·omega
set_option maxRecDepth 20000 in
theorem deep9_ret:∀ m,LenM m->∀ k:Nat,k<=64->Ret Tryz.prog w0 87 [mtA m,I k] (I (bqm m k)):=by
 refine Mtd.ind fun t n a b l xs ih hL k hk=> ?_
 obtain ⟨hl,hr,hx,hi⟩:=hL
 intro H
 simp only [mtA,mtC]
 refine aqf Tryz.func87 rfl Tryz.ntmps87 (ts:=[4]) rfl (by simp) (by kernel_rfl) ?_
 repeat'(with_reducible first|(refine aqd (hK _ _ ?_);clear hK K)|refine vr [3] fun K hK=>?_|(refine aqa fun K' hK'=>?_;simp;repeat'(first|(apply hK';clear hK' K')|intro hg|fail))|refine sp ?_|fail)
 rename_i r
 have hr0:H r=none:=hg
 clear hg
 obtain ⟨H1,hH1⟩:∃ H1,H1=upd H r (some (.box [I t,I n,I a,I b,rows l,.sl (mtCs xs) xs.length])):=⟨_,rfl⟩
 have hsub:Sub H H1:=by rw [hH1];exact aqh hr0
 have lr:H1 r=some (.box [I t,I n,I a,I b,rows l,.sl (mtCs xs) xs.length]):=by rw [hH1,aqj]
 rw [<-hH1]
 clear hH1 hr0
 have c1:=lqq (w0:=w0) (t:=t)
 refine aqi (fun env h=>∃ q:Nat,q<=xs.length/\h=H1/\env 6=I q/\env 5=I ((if 0<k/\5<=t/\t<=9 then bqb (xs.take q) (k-1) else 0:Nat):Int)/\env 1=I k/\env 2= .ptr r 0 0) (fun env _=>xs.length-natA (env 6)) ?_ ?_
 ·exact ⟨0,by omega,rfl,by simp,by simp [bqb],by simp,by simp⟩
 rintro env h ⟨q,hq,rfl,h6,h5,h1,h2⟩
 have hnat:natA (env 6)=q:=by simp [h6]
 rw [hnat];clear hnat
 by_cases g1:q<xs.length
 ·by_cases g2:0<k
  ·by_cases g3:5<=t/\t<=9
   ·have hat:=dq1 g1
    have hsl:=dqb xs
    have hlt':q*6+6<=xs.length*6:=by omega
    obtain ⟨x,hx'⟩:∃ x,xs[q]=x:=⟨_,rfl⟩
    have hxm:x∈xs:=by rw [<-hx'];exact List.getElem_mem _
    have ci:=ih x hxm (hi x hxm) (k-1) (by omega)
    rw [hx'] at hat
    have e1:((k-1:Nat):Int)=k-1:=by omega
    rw [e1] at ci
    have htk:xs.take (q+1)=xs.take q++[x]:=by rw [List.take_succ_eq_append_getElem g1,hx']
    have hda:=lq9 (xs.take q) x (k-1)
    rw [<-htk] at hda
    have hcl:=cqh x
    have hone:mtA x= .agg (mtC x):=rfl
    rw [hone] at ci
    have hdl:=iqc x (k-1)
    rw [if_pos ⟨g2,g3⟩] at h5
    generalize bqb (xs.take q) (k-1)=d at *
    generalize bqm x (k-1)=d' at *
    repeat'(with_reducible first|(refine aqd (hK _ _ ?_);clear hK K)|refine vr [] fun K hK=>?_|((first|refine aqa fun K' hK'=>?_|refine aqb fun K' B hK' hB=>?_|(apply aqk;refine aqe rfl fun K' hK'=>?_));simp[h6,h5,h1,h2,lr,g1,g2,g3,hat,hsl,hlt'];repeat'(first|((first|refine hK' ?_|refine hB ?_);clear hK' hB K' B)|(apply hK';clear hK' K')|refine Ret.use c1 ?_|refine Ret.use ci ?_|refine And.intro ?_ ?_|(clear hK' K';omega)))|refine sp ?_|fail)
    exact ⟨⟨q+1,by omega,rfl,by simp,by rw [if_pos ⟨g2,g3⟩,hda];simp;omega,by simp [h1],by simp [h2]⟩,by simp;omega⟩
   ·repeat'(with_reducible first|(refine aqd (hK _ _ ?_);clear hK K)|refine vr [] fun K hK=>?_|((first|refine aqa fun K' hK'=>?_|refine aqb fun K' B hK' hB=>?_|(apply aqk;refine aqe rfl fun K' hK'=>?_));simp[h6,h5,h1,h2,lr,g1,g2,g3];repeat'(first|((first|refine hK' ?_|refine hB ?_);clear hK' hB K' B)|(apply hK';clear hK' K')|refine Ret.use c1 ?_|fail))|apply aqc|refine sp ?_|fail)
    rw [bqm,if_neg (by omega)]
    exact ⟨by simp,hsub⟩
  ·repeat'(with_reducible first|(refine aqd (hK _ _ ?_);clear hK K)|refine vr [] fun K hK=>?_|((first|refine aqa fun K' hK'=>?_|refine aqb fun K' B hK' hB=>?_|(apply aqk;refine aqe rfl fun K' hK'=>?_));simp[h6,h5,h1,h2,lr,g1,g2];repeat'(first|((first|refine hK' ?_|refine hB ?_);clear hK' hB K' B)|(apply hK';clear hK' K')|fail))|apply aqc|refine sp ?_|fail)
   rw [bqm,if_neg (by omega)]
   exact ⟨by simp,hsub⟩
 ·rw [List.take_of_length_le (by omega)] at h5
  have hd:bqm (.mk t n a b l xs) k=(if 0<k/\5<=t/\t<=9 then bqb xs (k-1) else 0)+1:=by rw [bqm]
  have hdl:=iqc (.mk t n a b l xs) k
  rw [hd] at hdl ⊢
  generalize (if 0<k/\5<=t/\t<=9 then bqb xs (k-1) else 0)=w at *
  repeat'(with_reducible first|(refine aqd (hK _ _ ?_);clear hK K)|refine vr [] fun K hK=>?_|((first|refine aqa fun K' hK'=>?_|refine aqb fun K' B hK' hB=>?_|(apply aqk;refine aqe rfl fun K' hK'=>?_));simp[h6,h5,h1,h2,lr,g1];repeat'(first|((first|refine hK' ?_|refine hB ?_);clear hK' hB K' B)|(apply hK';clear hK' K')|refine And.intro ?_ ?_|(clear hK' K';omega)))|apply aqc|refine sp ?_|fail)
  exact ⟨by simp,hsub⟩
theorem kq3 {m:Mtd} (hm:LenM m):Ret Tryz.prog w0 51 [mtA m] (I (bqm m 4)):=by
 intro H
 have c1:Ret Tryz.prog w0 87 [mtA m,I 4] (I (bqm m 4)):=deep9_ret (w0:=w0) m hm 4 (by omega)
 obtain ⟨t,n,a,b,l,xs⟩:=m
 simp only [mtA,mtC] at c1 ⊢
 refine aqf Tryz.func51 rfl Tryz.ntmps51 (ts:=[2]) rfl (by simp) (by kernel_rfl) ?_
 repeat'(with_reducible first|(refine aqd (hK _ _ ?_);clear hK K)|refine vr [] fun K hK=>?_|(refine aqa fun K' hK'=>?_;simp;repeat'(first|(apply hK';clear hK' K')|refine Ret.use c1 ?_|intro hg|fail))|apply aqc|refine sp ?_|fail)
 exact ⟨by simp,aqh (by assumption)⟩
theorem deepRs_get {xs:List Mtd} {x:Mtd} (h:x∈xs) (k:Nat):bqm x k<=bqb xs k:=by
 induction xs with
 | nil=>simp at h
 | cons y xs ih=>
  rw [bqb]
  rcases List.mem_cons.1 h with rfl | h
  ·omega
  ·have:=ih h;omega
def dqe:List (List Int)->Nat->Nat
 | [],s=>s
 | r::l,s=>if s<10000 then dqe l (s+r.length) else s
mutual
def iqm:Mtd->Nat->Nat
 | .mk _ _ _ _ l xs,k=>bqx xs k (dqe l (1+l.length))
def bqx:List Mtd->Nat->Nat->Nat
 | [],_,s=>s
 | x::xs,k,s=>if s<10000 then bqx xs k (s+if 0<k then iqm x (k-1) else 10000) else s
end
theorem sizeL_app (l:List (List Int)) (r:List Int) (s:Nat) (h:dqe l s<10000):dqe (l++[r]) s=dqe l s+r.length:=by
 induction l generalizing s with
 | nil=>rw [dqe] at h;simp [dqe,h]
 | cons x l ih=>
  rw [dqe] at h
  rw [List.cons_append,dqe,dqe]
  split at h
  ·rename_i k;rw [if_pos k,if_pos k];exact ih _ h
  ·omega
theorem sizeL_stop (l l':List (List Int)) (s:Nat) (h:10000<=dqe l s):dqe (l++l') s=dqe l s:=by
 induction l generalizing s with
 | nil=>
  rw [dqe] at h
  rw [List.nil_append,dqe]
  cases l' with
  | nil=>rfl
  | cons x l'=>rw [dqe,if_neg (Nat.not_lt.2 h)]
 | cons x l ih=>
  rw [dqe] at h
  rw [List.cons_append,dqe,dqe]
  split at h
  ·rename_i k;rw [if_pos k,if_pos k];exact ih _ h
  ·rename_i k;rw [if_neg k,if_neg k]
theorem sizeRs_app (l:List Mtd) (r:Mtd) (k s:Nat) (h:bqx l k s<10000):bqx (l++[r]) k s=bqx l k s+if 0<k then iqm r (k-1) else 10000:=by
 induction l generalizing s with
 | nil=>rw [bqx] at h;simp [bqx,h]
 | cons x l ih=>
  rw [bqx] at h
  rw [List.cons_append,bqx,bqx]
  split at h
  ·rename_i k;rw [if_pos k,if_pos k];exact ih _ h
  ·omega
theorem sizeRs_stop (l l':List Mtd) (k s:Nat) (h:10000<=bqx l k s):bqx (l++l') k s=bqx l k s:=by
 induction l generalizing s with
 | nil=>
  rw [bqx] at h
  rw [List.nil_append,bqx]
  cases l' with
  | nil=>rfl
  | cons x l'=>rw [bqx,if_neg (Nat.not_lt.2 h)]
 | cons x l ih=>
  rw [bqx] at h
  rw [List.cons_append,bqx,bqx]
  split at h
  ·rename_i k;rw [if_pos k,if_pos k];exact ih _ h
  ·rename_i k;rw [if_neg k,if_neg k]
set_option maxRecDepth 20000 in
theorem sizeL_le {l:List (List Int)} (hr:∀ r∈l,aqz r):∀ s,dqe l s<=max s (4611686018427397904):=by
 induction l with
 | nil=>intro s;rw [dqe];omega
 | cons r l ih=>
  intro s
  have h1:r.length<=4611686018427387904:=hr r (by simp)
  have:=ih (fun x hx=>hr x (by simp [hx])) (s+r.length)
  rw [dqe];split<;>omega
set_option maxRecDepth 20000 in
theorem sizeR_le:∀ m,LenM m->∀ k,iqm m k<=4611686018427387904+10000*k+20000:=by
 refine Mtd.ind fun t n a b l xs ih h k=> ?_
 obtain ⟨hl,hr,hx,hi⟩:=h
 have h1:=sizeL_le hr (1+l.length)
 have h2:l.length<=4611686018427387904:=hl
 rw [iqm]
 generalize dqe l (1+l.length)=s at *
 have:∀ ys:List Mtd,(∀ y∈ys,y∈xs)->∀ s,s<=4611686018427397904->bqx ys k s<=4611686018427387904+10000*k+20000:=by
  intro ys
  induction ys with
  | nil=>intro _ s hs;rw [bqx];omega
  | cons y ys ih2=>
   intro hy s hs
   rw [bqx]
   split
   ·by_cases hk:0<k
    ·have h3:=ih y (hy y (by simp)) (hi y (hy y (by simp))) (k-1)
     rw [if_pos hk]
     by_cases h4:s+iqm y (k-1)<=4611686018427397904
     ·exact ih2 (fun z hz=>hy z (by simp [hz])) _ h4
     ·cases ys with
      | nil=>rw [bqx];omega
      | cons z ys=>rw [bqx,if_neg (by omega)];omega
    ·rw [if_neg hk]
     exact ih2 (fun z hz=>hy z (by simp [hz])) _ (by omega)
   ·omega
 exact this xs (fun y h=>h) s (by omega)
set_option maxRecDepth 20000 in
theorem size9_ret:∀ m,LenM m->∀ k:Nat,k<=64->Ret Tryz.prog w0 101 [mtA m,I k] (I (iqm m k)):=by
 refine Mtd.ind fun t n a b l xs ih hL k hk=> ?_
 have hL':=hL
 obtain ⟨hl,hr,hx,hi⟩:=hL
 intro H
 simp only [mtA,mtC]
 refine aqf Tryz.func101 rfl Tryz.ntmps101 (ts:=[4]) rfl (by simp) (by kernel_rfl) ?_
 repeat'(with_reducible first|(refine aqd (hK _ _ ?_);clear hK K)|refine vr [3] fun K hK=>?_|(refine aqa fun K' hK'=>?_;simp[rows,hl];repeat'(first|(apply hK';clear hK' K')|refine And.intro ?_ ?_|intro hg|(clear hK' K';omega)))|refine sp ?_|fail)
 rename_i r
 have hr0:H r=none:=hg
 clear hg
 obtain ⟨H1,hH1⟩:∃ H1,H1=upd H r (some (.box [I t,I n,I a,I b,rows l,.sl (mtCs xs) xs.length])):=⟨_,rfl⟩
 have hsub:Sub H H1:=by rw [hH1];exact aqh hr0
 have lr:H1 r=some (.box [I t,I n,I a,I b,rows l,.sl (mtCs xs) xs.length]):=by rw [hH1,aqj]
 simp only [rows] at hH1
 rw [<-hH1]
 clear hH1 hr0
 have hS:=sizeR_le _ hL' k
 rw [iqm] at hS ⊢
 have hll:l.length<=4611686018427387904:=hl
 refine aqi (fun env h=>∃ (q s:Nat),q<=l.length/\h=H1/\env 6=I q/\dqe (l.take q) (1+l.length)=s/\env 5=I s/\env 1=I k/\env 2= .ptr r 0 0) (fun env _=>l.length-natA (env 6)) ?_ ?_
 ·exact ⟨0,_,by omega,rfl,by simp,rfl,by simp [dqe],by simp,by simp⟩
 rintro env h ⟨q,s,hq,rfl,h6,hs,h5,h1,h2⟩
 have hnat:natA (env 6)=q:=by simp [h6]
 rw [hnat];clear hnat
 by_cases g:q<l.length/\s<10000
 ·obtain ⟨g1,g2⟩:=g
  obtain ⟨x,hx'⟩:∃ x,l[q]=x:=⟨_,rfl⟩
  have hxl:x.length<=4611686018427387904:=hr x (by rw [<-hx'];exact List.getElem_mem _)
  have htk:l.take (q+1)=l.take q++[x]:=by rw [List.take_succ_eq_append_getElem g1,hx']
  have hda:=sizeL_app (l.take q) x (1+l.length) (by omega)
  rw [<-htk,hs] at hda
  have hgx:∀ h,l[q]'h=x:=fun _=>hx'
  have g2':(s:Int)<10000:=by omega
  repeat'(with_reducible first|(refine aqd (hK _ _ ?_);clear hK K)|refine vr [] fun K hK=>?_|((first|refine aqa fun K' hK'=>?_|refine aqb fun K' B hK' hB=>?_|(apply aqk;refine aqe rfl fun K' hK'=>?_));simp[h6,h5,h1,h2,lr,g1,g2',rows,hgx,ints];repeat'(first|((first|refine hK' ?_|refine hB ?_);clear hK' hB K' B)|(apply hK';clear hK' K')|refine And.intro ?_ ?_|(clear hK' K';omega)))|refine sp ?_|fail)
  exact ⟨⟨q+1,_,by omega,rfl,by simp,hda,by simp,by simp [h1],by simp [h2]⟩,by simp;omega⟩
 ·have hend:dqe l (1+l.length)=s:=by
   by_cases g1:q<l.length
   ·have:=sizeL_stop (l.take q) (l.drop q) (1+l.length) (by omega)
    rw [List.take_append_drop] at this
    omega
   ·rw [List.take_of_length_le (by omega)] at hs;exact hs
  rw [hend] at hS ⊢
  clear hs hend hll
  rcases Nat.lt_or_ge q l.length with g1 | g1
  have g2:¬(s:Int)<10000:=fun k=>g ⟨g1,by omega⟩
  repeat'(with_reducible first|(refine aqd (hK _ _ ?_);clear hK K)|refine vr [] fun K hK=>?_|((first|refine aqa fun K' hK'=>?_|refine aqb fun K' B hK' hB=>?_|(apply aqk;refine aqe rfl fun K' hK'=>?_));simp[h6,h5,h1,h2,lr,g1,g2,rows];repeat'(first|((first|refine hK' ?_|refine hB ?_);clear hK' hB K' B)|(apply hK';clear hK' K')|fail))|refine sp ?_|fail)
  rotate_left
  have g2:¬q<l.length:=by omega
  repeat'(with_reducible first|(refine aqd (hK _ _ ?_);clear hK K)|refine vr [] fun K hK=>?_|((first|refine aqa fun K' hK'=>?_|refine aqb fun K' B hK' hB=>?_|(apply aqk;refine aqe rfl fun K' hK'=>?_));simp[h6,h5,h1,h2,lr,g2,rows];repeat'(first|((first|refine hK' ?_|refine hB ?_);clear hK' hB K' B)|(apply hK';clear hK' K')|fail))|refine sp ?_|fail)
  all_goals
   clear g2 g1 g
   refine aqi (fun env h'=>∃ (q s':Nat),q<=xs.length/\h=h'/\env 7=I q/\bqx (xs.take q) k s=s'/\env 5=I s'/\env 1=I k/\env 2= .ptr r 0 0) (fun env _=>xs.length-natA (env 7)) ?_ ?_
   ·exact ⟨0,_,by omega,rfl,by simp,rfl,by simp [bqx,h5],by simp [h1],by simp [h2]⟩
   clear h6 h5 h1 h2 hq
   clear q env
   rintro env h' ⟨q,s',hq,rfl,h7,hs,h5,h1,h2⟩
   have hnat:natA (env 7)=q:=by simp [h7]
   rw [hnat];clear hnat
   by_cases g:q<xs.length/\s'<10000
   ·obtain ⟨g1,g2⟩:=g
    have hat:=dq1 g1
    have hsl:=dqb xs
    have hlt':q*6+6<=xs.length*6:=by omega
    obtain ⟨x,hx'⟩:∃ x,xs[q]=x:=⟨_,rfl⟩
    have hxm:x∈xs:=by rw [<-hx'];exact List.getElem_mem _
    have ci:=ih x hxm (hi x hxm) (k-1) (by omega)
    rw [hx'] at hat
    have htk:xs.take (q+1)=xs.take q++[x]:=by rw [List.take_succ_eq_append_getElem g1,hx']
    have hda:=sizeRs_app (xs.take q) x k s (by omega)
    rw [<-htk,hs] at hda
    have hcl:=cqh x
    have hone:mtA x= .agg (mtC x):=rfl
    rw [hone] at ci
    have hdl:=sizeR_le x (hi x hxm) (k-1)
    have g2':(s':Int)<10000:=by omega
    by_cases g3:0<k
    ·have e1:((k-1:Nat):Int)=k-1:=by omega
     rw [e1] at ci
     rw [if_pos g3] at hda
     generalize iqm x (k-1)=d' at *
     repeat'(with_reducible first|(refine aqd (hK _ _ ?_);clear hK K)|refine vr [] fun K hK=>?_|((first|refine aqa fun K' hK'=>?_|refine aqb fun K' B hK' hB=>?_|(apply aqk;refine aqe rfl fun K' hK'=>?_));simp[h7,h5,h1,h2,lr,g1,g2',g3,hat,hsl,hlt'];repeat'(first|((first|refine hK' ?_|refine hB ?_);clear hK' hB K' B)|(apply hK';clear hK' K')|refine Ret.use ci ?_|refine And.intro ?_ ?_|(clear hK' K';omega)))|refine sp ?_|fail)
     exact ⟨⟨q+1,_,by omega,rfl,by simp,hda,by simp,by simp [h1],by simp [h2]⟩,by simp;omega⟩
    ·rw [if_neg g3] at hda
     repeat'(with_reducible first|(refine aqd (hK _ _ ?_);clear hK K)|refine vr [] fun K hK=>?_|((first|refine aqa fun K' hK'=>?_|refine aqb fun K' B hK' hB=>?_|(apply aqk;refine aqe rfl fun K' hK'=>?_));simp[h7,h5,h1,h2,lr,g1,g2',g3];repeat'(first|((first|refine hK' ?_|refine hB ?_);clear hK' hB K' B)|(apply hK';clear hK' K')|refine And.intro ?_ ?_|(clear hK' K';omega)))|refine sp ?_|fail)
     exact ⟨⟨q+1,_,by omega,rfl,by simp,hda,by simp,by simp [h1],by simp [h2]⟩,by simp;omega⟩
   ·have hend:bqx xs k s=s':=by
     by_cases g1:q<xs.length
     ·have:=sizeRs_stop (xs.take q) (xs.drop q) k s (by omega)
      rw [List.take_append_drop] at this
      omega
     ·rw [List.take_of_length_le (by omega)] at hs;exact hs
    rw [hend] at hS ⊢
    by_cases g1:q<xs.length
    ·have g2:¬(s':Int)<10000:=fun k=>g ⟨g1,by omega⟩
     repeat'(with_reducible first|(refine aqd (hK _ _ ?_);clear hK K)|refine vr [] fun K hK=>?_|((first|refine aqa fun K' hK'=>?_|refine aqb fun K' B hK' hB=>?_|(apply aqk;refine aqe rfl fun K' hK'=>?_));simp[h7,h5,h1,h2,lr,g1,g2];repeat'(first|((first|refine hK' ?_|refine hB ?_);clear hK' hB K' B)|(apply hK';clear hK' K')|fail))|apply aqc|refine sp ?_|fail)
     exact ⟨by simp,hsub⟩
    ·repeat'(with_reducible first|(refine aqd (hK _ _ ?_);clear hK K)|refine vr [] fun K hK=>?_|((first|refine aqa fun K' hK'=>?_|refine aqb fun K' B hK' hB=>?_|(apply aqk;refine aqe rfl fun K' hK'=>?_));simp[h7,h5,h1,h2,lr,g1];repeat'(first|((first|refine hK' ?_|refine hB ?_);clear hK' hB K' B)|(apply hK';clear hK' K')|fail))|apply aqc|refine sp ?_|fail)
     exact ⟨by simp,hsub⟩
theorem Small9_ret {m:Mtd} (hm:LenM m):Ret Tryz.prog w0 61 [mtA m] (B (decide (iqm m 8<=300))):=by
 intro H
 have c1:Ret Tryz.prog w0 101 [mtA m,I 8] (I (iqm m 8)):=size9_ret (w0:=w0) m hm 8 (by omega)
 obtain ⟨t,n,a,b,l,xs⟩:=m
 simp only [mtA,mtC] at c1 ⊢
 refine aqf Tryz.func61 rfl Tryz.ntmps61 (ts:=[2]) rfl (by simp) (by kernel_rfl) ?_
 generalize iqm (.mk t n a b l xs) 8=d at *
 by_cases g:(d:Int)<=300
 ·have g':d<=300:=by omega
  repeat'(with_reducible first|(refine aqd (hK _ _ ?_);clear hK K)|refine vr [] fun K hK=>?_|(refine aqa fun K' hK'=>?_;simp[g];repeat'(first|(apply hK';clear hK' K')|refine Ret.use c1 ?_|intro hg|fail))|apply aqc|refine sp ?_|fail)
  exact ⟨by simp [g'],aqh (by assumption)⟩
 ·have g':¬d<=300:=by omega
  repeat'(with_reducible first|(refine aqd (hK _ _ ?_);clear hK K)|refine vr [] fun K hK=>?_|(refine aqa fun K' hK'=>?_;simp[g];repeat'(first|(apply hK';clear hK' K')|refine Ret.use c1 ?_|intro hg|fail))|apply aqc|refine sp ?_|fail)
  exact ⟨by simp [g'],aqh (by assumption)⟩
def mostR (m:Mtd) (most:Int):Int:=if 3<=bqm m 4 then min most 6 else most
mutual
def fewR:Mtd->Int->Bool
 | .mk t n a b l xs,most=>decide (iqm (.mk t n a b l xs) 8<=300)&&decide (n<=mostR (.mk t n a b l xs) most)&&decide (b<=100)&&fewRs xs (mostR (.mk t n a b l xs) most)
def fewRs:List Mtd->Int->Bool
 | [],_=>true
 | x::xs,most=>fewR x most&&fewRs xs most
end
theorem hq7 (xs:List Mtd) (k:Int):fewRs xs k=xs.all (fewR · k):=by
 induction xs with
 | nil=>rfl
 | cons x xs ih=>rw [fewRs,List.all_cons,ih]
set_option maxRecDepth 20000 in
theorem hq8:∀ m,LenM m->∀ k:Int,Ret Tryz.prog w0 19 [mtA m,I k] (B (fewR m k)):=by
 refine Mtd.ind fun t n a b l xs ih hL k=> ?_
 have c1:=kq3 (w0:=w0) hL
 have c2:=Small9_ret (w0:=w0) hL
 obtain ⟨hl,hr,hx,hi⟩:=hL
 intro H
 rw [fewR,mostR]
 simp only [mtA,mtC] at c1 c2 ⊢
 generalize bqm (.mk t n a b l xs) 4=d at *
 generalize iqm (.mk t n a b l xs) 8=s at *
 obtain ⟨mo,hmo⟩:∃ x:Int,x=if 3<=d then min k 6 else k:=⟨_,rfl⟩
 rw [<-hmo]
 refine aqf Tryz.func19 rfl Tryz.ntmps19 (ts:=[4]) rfl (by simp) (by kernel_rfl) ?_
 repeat'(with_reducible first|(refine aqd (hK _ _ ?_);clear hK K)|((fail_if_success(refine aql 1 ?_));(fail_if_success(refine(?_:AWP _ _ _ (Code.region 1 _ _) _ _ _)));refine vr [] fun K hK=>?_)|(refine aqa fun K' hK'=>?_;simp;repeat'(first|(apply hK';clear hK' K')|intro hg|fail))|((fail_if_success(refine aql 1 ?_));refine sp ?_)|fail)
 rename_i r
 have hr0:H r=none:=hg
 clear hg
 obtain ⟨H1,hH1⟩:∃ H1,H1=upd H r (some (.box [I t,I n,I a,I b,rows l,.sl (mtCs xs) xs.length])):=⟨_,rfl⟩
 have hsub:Sub H H1:=by rw [hH1];exact aqh hr0
 have lr:H1 r=some (.box [I t,I n,I a,I b,rows l,.sl (mtCs xs) xs.length]):=by rw [hH1,aqj]
 rw [<-hH1]
 clear hH1 hr0
 rcases Nat.lt_or_ge d 3 with g1 | g1
 have g1':¬(3:Int)<=d:=by omega
 have g1n:¬3<=d:=by omega
 rw [if_neg g1n] at hmo
 subst hmo
 have hmo:True:=trivial
 repeat'(with_reducible first|(refine aqd (hK _ _ ?_);clear hK K)|((fail_if_success(refine aql 3 ?_));(fail_if_success(refine(?_:AWP _ _ _ (Code.region 3 _ _) _ _ _)));refine vr [] fun K hK=>?_)|((first|refine aqa fun K' hK'=>?_|refine aqb fun K' B hK' hB=>?_);simp[lr,g1'];repeat'(first|((first|refine hK' ?_|refine hB ?_);clear hK' hB K' B)|(apply hK';clear hK' K')|refine Ret.use c1 ?_|fail))|((fail_if_success(refine aql 3 ?_));refine sp ?_)|fail)
 rotate_left
 have g1':(3:Int)<=d:=by omega
 rw [if_pos g1] at hmo
 repeat'(with_reducible first|(refine aqd (hK _ _ ?_);clear hK K)|((fail_if_success(refine aql 3 ?_));(fail_if_success(refine(?_:AWP _ _ _ (Code.region 3 _ _) _ _ _)));refine vr [] fun K hK=>?_)|((first|refine aqa fun K' hK'=>?_|refine aqb fun K' B hK' hB=>?_);simp[lr,g1',<-hmo];repeat'(first|((first|refine hK' ?_|refine hB ?_);clear hK' hB K' B)|(apply hK';clear hK' K')|refine Ret.use c1 ?_|fail))|((fail_if_success(refine aql 3 ?_));refine sp ?_)|fail)
 all_goals
  clear hmo
  clear g1' g1
  by_cases k1:s<=300
  ·by_cases k2:n<=mo
   ·by_cases k3:b<=100
    ·have k1':decide (s<=300)=true:=by simp [k1]
     have k2':¬mo<n:=by omega
     have k3':¬100<b:=by omega
     repeat'(with_reducible first|(refine aqd (hK _ _ ?_);clear hK K)|refine vr [] fun K hK=>?_|((first|refine aqa fun K' hK'=>?_|refine aqb fun K' B hK' hB=>?_|(apply aqk;refine aqe rfl fun K' hK'=>?_));simp[lr,k1',k2',k3'];repeat'(first|((first|refine hK' ?_|refine hB ?_);clear hK' hB K' B)|(apply hK';clear hK' K')|refine Ret.use c2 ?_|fail))|refine sp ?_|fail)
     refine aqi (fun env h=>∃ q:Nat,q<=xs.length/\h=H1/\fewRs (xs.take q) mo=true/\env 5=I q/\env 1=I mo/\env 2= .ptr r 0 0) (fun env _=>xs.length-natA (env 5)) ?_ ?_
     ·exact ⟨0,by omega,rfl,by simp [fewRs],by simp,by simp,by simp⟩
     rintro env h ⟨q,hq,rfl,hf,h5,h1,h2⟩
     have hnat:natA (env 5)=q:=by simp [h5]
     rw [hnat];clear hnat
     by_cases g1:q<xs.length
     ·have hat:=dq1 g1
      have hsl:=dqb xs
      have hlt':q*6+6<=xs.length*6:=by omega
      obtain ⟨x,hx'⟩:∃ x,xs[q]=x:=⟨_,rfl⟩
      have hxm:x∈xs:=by rw [<-hx'];exact List.getElem_mem _
      have ci:=ih x hxm (hi x hxm) mo
      rw [hx'] at hat
      have htk:xs.take (q+1)=xs.take q++[x]:=by rw [List.take_succ_eq_append_getElem g1,hx']
      have hcl:=cqh x
      have hone:mtA x= .agg (mtC x):=rfl
      rw [hone] at ci
      cases hv:fewR x mo with
      | true=>
       rw [hv] at ci
       repeat'(with_reducible first|(refine aqd (hK _ _ ?_);clear hK K)|refine vr [] fun K hK=>?_|((first|refine aqa fun K' hK'=>?_|refine aqb fun K' B hK' hB=>?_);simp[h5,h1,h2,lr,g1,hat,hsl,hlt'];repeat'(first|((first|refine hK' ?_|refine hB ?_);clear hK' hB K' B)|(apply hK';clear hK' K')|refine Ret.use ci ?_|refine And.intro ?_ ?_|(clear hK' K';omega)))|refine sp ?_|fail)
       exact ⟨⟨q+1,by omega,rfl,by rw [htk,hq7,List.all_append,<-hq7,hf];simp [hv],by simp,by simp [h1],by simp [h2]⟩,by simp;omega⟩
      | false=>
       rw [hv] at ci
       have hfa:fewRs xs mo=false:=by rw [hq7,List.all_eq_false];exact ⟨x,hxm,by simp [hv]⟩
       repeat'(with_reducible first|(refine aqd (hK _ _ ?_);clear hK K)|refine vr [] fun K hK=>?_|((first|refine aqa fun K' hK'=>?_|refine aqb fun K' B hK' hB=>?_);simp[h5,h1,h2,lr,g1,hat,hsl,hlt'];repeat'(first|((first|refine hK' ?_|refine hB ?_);clear hK' hB K' B)|(apply hK';clear hK' K')|refine Ret.use ci ?_|fail))|apply aqc|refine sp ?_|fail)
       exact ⟨by simp [hfa],hsub⟩
     ·rw [List.take_of_length_le (by omega)] at hf
      repeat'(with_reducible first|(refine aqd (hK _ _ ?_);clear hK K)|refine vr [] fun K hK=>?_|((first|refine aqa fun K' hK'=>?_|refine aqb fun K' B hK' hB=>?_);simp[h5,h1,h2,lr,g1];repeat'(first|((first|refine hK' ?_|refine hB ?_);clear hK' hB K' B)|(apply hK';clear hK' K')|fail))|apply aqc|refine sp ?_|fail)
      exact ⟨by simp [hf,k1,k2,k3],hsub⟩
    ·have k1':decide (s<=300)=true:=by simp [k1]
     have k3':100<b:=by omega
     have k2':¬mo<n:=by omega
     repeat'(with_reducible first|(refine aqd (hK _ _ ?_);clear hK K)|refine vr [] fun K hK=>?_|((first|refine aqa fun K' hK'=>?_|refine aqb fun K' B hK' hB=>?_|(apply aqk;refine aqe rfl fun K' hK'=>?_));simp[lr,k1',k2',k3'];repeat'(first|((first|refine hK' ?_|refine hB ?_);clear hK' hB K' B)|(apply hK';clear hK' K')|refine Ret.use c2 ?_|fail))|apply aqc|refine sp ?_|fail)
     exact ⟨by simp [k3],hsub⟩
   ·have k1':decide (s<=300)=true:=by simp [k1]
    have k2':mo<n:=by omega
    repeat'(with_reducible first|(refine aqd (hK _ _ ?_);clear hK K)|refine vr [] fun K hK=>?_|((first|refine aqa fun K' hK'=>?_|refine aqb fun K' B hK' hB=>?_|(apply aqk;refine aqe rfl fun K' hK'=>?_));simp[lr,k1',k2'];repeat'(first|((first|refine hK' ?_|refine hB ?_);clear hK' hB K' B)|(apply hK';clear hK' K')|refine Ret.use c2 ?_|fail))|apply aqc|refine sp ?_|fail)
    exact ⟨by simp [k2],hsub⟩
  ·have k1':decide (s<=300)=false:=by simp [k1]
   repeat'(with_reducible first|(refine aqd (hK _ _ ?_);clear hK K)|refine vr [] fun K hK=>?_|((first|refine aqa fun K' hK'=>?_|refine aqb fun K' B hK' hB=>?_|(apply aqk;refine aqe rfl fun K' hK'=>?_));simp[lr,k1'];repeat'(first|((first|refine hK' ?_|refine hB ?_);clear hK' hB K' B)|(apply hK';clear hK' K')|refine Ret.use c2 ?_|fail))|apply aqc|refine sp ?_|fail)
   exact ⟨by simp [k1],hsub⟩
def labB (n:Nat) (s:Int->Bool):List AV:=(upto n).map fun x=>B (s x)
theorem cq7 (n:Nat) (s:Int->Bool):(labB n s).length=n:=by simp [labB]
theorem labB_at {n:Nat} {s:Int->Bool} {x:Int} (h0:0<=x) (h:x.toNat<(labB n s).length):(labB n s)[x.toNat]=B (s x):=by
 simp only [labB,List.getElem_map,cqm]
 rw [show ((x.toNat:Nat):Int)=x by omega]
theorem labB_set {n:Nat} {s:Int->Bool} {w:Int} {x:Bool} (h0:0<=w):(labB n s).set w.toNat (B x)=labB n (setF s w x):=by
 refine List.ext_getElem? fun i=> ?_
 rw [List.getElem?_set,cq7]
 simp only [labB,List.getElem?_map]
 by_cases hi:i<n
 ·have hu:(upto n)[i]? =some (i:Int):=by rw [List.getElem?_eq_getElem (by simpa using hi),cqm]
  rw [hu]
  simp only [Option.map_some,setF]
  by_cases e:w.toNat=i
  ·rw [if_pos e,if_pos (by omega),if_pos (by omega)]
  ·rw [if_neg e,if_neg (by omega)]
 ·have hu:(upto n)[i]? =none:=List.getElem?_eq_none (by simpa using hi)
  rw [hu]
  by_cases e:w.toNat=i
  ·rw [if_pos e,if_neg (by omega)];rfl
  ·rw [if_neg e];rfl
theorem labI_setF {n:Nat} {f:Int->Int} {w x:Int} (h0:0<=w):(labI n f).set w.toNat (I x)=labI n (setF f w x):=nqc h0
def ms (H:Heap) (F L R S:Nat) (adj:List (List Int)) (m:Nat) (f g:Int->Int) (s:Int->Bool):Heap:=
 upd (upd (upd (upd H L (some (.arr 1 3 (labI adj.length f) adj.length))) R (some (.arr 1 3 (labI m g) m))) F (some (.box [rows adj,.ref L 0 adj.length adj.length,.ref R 0 m m,.ref S 0 m m]))) S (some (.arr 1 4 (labB m s) m))
structure Ds (F L R S:Nat):Prop where
 lr:L≠R
 lf:L≠F
 ls:L≠S
 rf:R≠F
 rs:R≠S
 fs:F≠S
section
variable {H:Heap} {F L R S m:Nat} {adj:List (List Int)} {f g:Int->Int} {s:Int->Bool} (d:Ds F L R S)
theorem ms_S:ms H F L R S adj m f g s S=some (.arr 1 4 (labB m s) m):=by simp [ms]
include d
theorem ms_F:ms H F L R S adj m f g s F=some (.box [rows adj,.ref L 0 adj.length adj.length,.ref R 0 m m,.ref S 0 m m]):=by simp [ms,d.fs]
theorem ms_R:ms H F L R S adj m f g s R=some (.arr 1 3 (labI m g) m):=by simp [ms,d.rs,d.rf]
theorem ms_L:ms H F L R S adj m f g s L=some (.arr 1 3 (labI adj.length f) adj.length):=by simp [ms,d.ls,d.lf,d.lr]
omit d in
theorem ms_setS {w:Int} {x:Bool} (h0:0<=w):upd (ms H F L R S adj m f g s) S (some (.arr 1 4 ((labB m s).set w.toNat (B x)) m))=ms H F L R S adj m f g (setF s w x):=by
 unfold ms;rw [aqx,labB_set h0]
theorem ms_setR {w x:Int} (h0:0<=w):upd (ms H F L R S adj m f g s) R (some (.arr 1 3 ((labI m g).set w.toNat (I x)) m))=ms H F L R S adj m f (setF g w x) s:=by
 unfold ms;rw [aq9 _ _ _ (Ne.symm d.rs),aq9 _ _ _ (Ne.symm d.rf),aqx,labI_setF h0]
theorem ms_setL {w x:Int} (h0:0<=w):upd (ms H F L R S adj m f g s) L (some (.arr 1 3 ((labI adj.length f).set w.toNat (I x)) adj.length))=ms H F L R S adj m (setF f w x) g s:=by
 unfold ms;rw [aq9 _ _ _ (Ne.symm d.ls),aq9 _ _ _ (Ne.symm d.lf),aq9 _ _ _ (Ne.symm d.lr),aqx,labI_setF h0]
end
theorem GrM.nb_set {m:Nat} {adj:List (List Int)} (h:GrM m adj) (i:Int):aq3 (nbM adj i):=by
 unfold nbM
 rw [List.getD_eq_getElem?_getD]
 cases hl:adj[i.toNat]? with
 | none=>exact .nil
 | some l=>exact h.set l (List.mem_of_getElem? hl)
theorem GrM.nb_len {m:Nat} {adj:List (List Int)} (h:GrM m adj) (i:Int):(nbM adj i).length<=m:=jq0 (h.nb_set i).up fun x hx=>h.nb hx
def hqd (m:Nat) (s:Int->Bool):Nat:=(upto m).countP fun k=> !s k
theorem unseen_le {m:Nat} {s s':Int->Bool} (h:∀ k,s k=true->s' k=true):hqd m s'<=hqd m s:=by
 unfold hqd
 refine List.countP_mono_left fun k _ hk=> ?_
 cases e:s k with
 | false=>rfl
 | true=>rw [h k e] at hk;cases hk
theorem unseen_lt {m:Nat} {s:Int->Bool} {k:Int} (h0:0<=k) (hm:k<m) (h:s k=false):hqd m (setF s k true)<hqd m s:=by
 unfold hqd
 have hk:k∈upto m:=aqq.2 ⟨h0,hm⟩
 generalize upto m=l at hk
 induction l with
 | nil=>cases hk
 | cons x l ih=>
  have hle:(l.countP fun y=> !setF s k true y)<=l.countP fun y=> !s y:=by
   refine List.countP_mono_left fun y _ hy=> ?_
   by_cases e:y=k
   ·subst e;simp [aq1] at hy
   ·simpa [aq4 _ _ e] using hy
  rw [List.countP_cons,List.countP_cons]
  by_cases e:x=k
  ·subst e
   simp [aq1,h]
   omega
  ·have hk':k∈l:=by
    rcases List.mem_cons.1 hk with h | h
    ·exact absurd h.symm e
    ·exact h
   have:=ih hk'
   rw [aq4 _ _ e]
   omega
set_option maxHeartbeats 4000000 in
theorem reach_use {H:Heap} {F L R S m:Nat} {adj:List (List Int)} (d:Ds F L R S) (hG:GrM m adj):∀ (N:Nat) {i:Int} {f g:Int->Int} {s:Int->Bool} {K:AV->Heap->Prop},Good m adj f g->0<=i->i<adj.length->(f i= -1\/s (f i)=true)->hqd m s<=N->
  (∀ s',RF adj g s s'->(∀ y∈nbM adj i,s' y=true)->K (B false) (ms H F L R S adj m f g s'))->(∀ f' g' s',RT m adj i f g s f' g' s'->K (B true) (ms H F L R S adj m f' g' s'))->
  aqo Tryz.prog w0 214 [.ptr F 0 0,I i] (ms H F L R S adj m f g s) K:=by
 intro N
 induction N using Nat.strongRecOn with
 | _ N ih=>
 intro i f g s K hf hi0 hin hs hN kf kt
 refine (?_:aqo Tryz.prog w0 214 [.ptr F 0 0,I i] (ms H F L R S adj m f g s)
  (fun v H'=>(∃ s',v=B false/\RF adj g s s'/\(∀ y∈nbM adj i,s' y=true)/\H'=ms H F L R S adj m f g s')\/∃ f' g' s',v=B true/\RT m adj i f g s f' g' s'/\H'=ms H F L R S adj m f' g' s')).drop ?_
 rotate_left
 ·rintro v H' (⟨s',rfl,h1,h2,rfl⟩ | ⟨f',g',s',rfl,h1,rfl⟩)
  ·exact ⟨_,.refl _,kf s' h1 h2⟩
  ·exact ⟨_,.refl _,kt f' g' s' h1⟩
 clear kf kt K
 have hit:i.toNat<adj.length:=by omega
 have hadj:∀ h,adj[i.toNat]'h=nbM adj i:=fun h=>nbM_toNat h
 have hnl:(nbM adj i).length<=64:=Nat.le_trans (hG.nb_len i) hG.mle
 refine aqf Tryz.func214 rfl Tryz.ntmps214 (ts:=[4]) rfl (by simp) (by kernel_rfl) ?_
 repeat'(with_reducible first|(refine sp (hK _ _ ?_);clear hK K)|refine vr [] fun K hK=>?_|(refine aqa fun K' hK'=>?_;simp[ms_F d,ms_L d,ms_R d,ms_S,rows,hadj,ints,hit,hi0];repeat'(first|(apply hK';clear hK' K')|refine And.intro ?_ ?_|(clear hK' K';omega)))|refine sp ?_|fail)
 refine aqi (fun env h=>∃ (q:Nat) (s1:Int->Bool),q<=(nbM adj i).length/\RF adj g s s1/\(∀ y∈(nbM adj i).take q,s1 y=true)/\env 15=I q/\env 14=I (nbM adj i).length/\env 13=ints (nbM adj i)/\env 0= .ptr F 0 0/\env 1=I i/\
   h=ms H F L R S adj m f g s1) (fun env _=>(nbM adj i).length-natA (env 15)) ?_ ?_
 ·exact ⟨0,s,by omega,.refl _ _ _,by simp,by simp,by simp,by simp [ints],by simp,by simp,rfl⟩
 rintro env h ⟨q,s1,hq,hrf,hall,h15,h14,h13,h0,h1,rfl⟩
 have hnat:natA (env 15)=q:=by simp [h15]
 rw [hnat];clear hnat
 by_cases hlt:q<(nbM adj i).length
 ·have hkn:(nbM adj i)[q]∈nbM adj i:=List.getElem_mem _
  have htk:∀ (s2:Int->Bool),(∀ y∈(nbM adj i).take q,s2 y=true)->s2 (nbM adj i)[q]=true->∀ y∈(nbM adj i).take (q+1),s2 y=true:=by
   intro s2 a b y hy
   rw [List.take_succ_eq_append_getElem hlt,List.mem_append,List.mem_singleton] at hy
   rcases hy with hy | rfl
   ·exact a y hy
   ·exact b
  obtain ⟨k,hke⟩:∃ k,k=(nbM adj i)[q]:=⟨_,rfl⟩
  rw [<-hke] at hkn htk
  have hkk:∀ h,(nbM adj i)[q]'h=k:=fun _=>hke.symm
  obtain ⟨k0,km⟩:=hG.nb hkn
  have kt:k.toNat<m:=by omega
  have eB:∀ (s':Int->Bool) h,(labB m s')[k.toNat]'h=B (s' k):=fun s' h=>labB_at k0 h
  have eI:∀ (g':Int->Int) h,(labI m g')[k.toNat]'h=I (g' k):=fun s' h=>fqz k0 h
  have klB:∀ s':Int->Bool,k.toNat<(labB m s').length:=fun s'=>by rw [cq7];exact kt
  have klI:∀ s':Int->Int,k.toNat<(labI m s').length:=fun s'=>by rw [aq5];exact kt
  have ilI:∀ s':Int->Int,i.toNat<(labI adj.length s').length:=fun s'=>by rw [aq5];exact hit
  cases hsk:s1 k with
  | true=>
   repeat'(with_reducible first|(refine sp (hK _ _ ?_);clear hK K)|refine vr [] fun K hK=>?_|((first|refine aqa fun K' hK'=>?_|refine aqb fun K' B hK' hB=>?_);simp[ms_F d,ms_L d,ms_R d,ms_S,h15,h14,h13,h0,h1,ints,hlt,hkk,kt,k0,eB,klB,hsk,cq7];repeat'(first|((first|refine hK' ?_|refine hB ?_);clear hK' hB K' B)|(apply hK';clear hK' K')|refine And.intro ?_ ?_|(clear hK' K';omega)))|refine sp ?_|fail)
   all_goals try omega
   exact ⟨⟨q+1,s1,by omega,hrf,htk s1 hall hsk,by simp,by simp [h14],by simp [h13,ints],by simp [h0],by simp [h1],rfl⟩,by simp;omega⟩
  | false=>
   have hun:=unseen_lt k0 km hsk
   have hun2:=unseen_le (m:=m) hrf.le
   by_cases hgk:g k= -1
   ·have rt:=rt_free hG hf hi0 hin hs hrf hkn hsk hgk
    repeat'(with_reducible first|(refine sp (hK _ _ ?_);clear hK K)|refine vr [] fun K hK=>?_|(refine vd [] [] mixed fun K hK=>?_)|((first|refine aqa fun K' hK'=>?_|refine aqb fun K' B hK' hB=>?_|refine aqn fun K' hK'=>?_|(apply aqk;refine aqe rfl fun K' hK'=>?_));simp[ms_F d,ms_L d,ms_R d,ms_S,ms_setS k0,ms_setR d k0,ms_setL d hi0,h15,h14,h13,h0,h1,ints,hlt,hkk,kt,k0,eB,eI,klB,klI,ilI,hsk,hgk,hit,hi0,cq7,aq5];repeat'(first|((first|refine hK' ?_|refine hB ?_);clear hK' hB K' B)|(apply hK';clear hK' K')|refine And.intro ?_ ?_|(clear hK' K';omega)))|apply aqc|refine sp ?_|fail)
    all_goals try omega
    exact .inr ⟨_,_,_,by simp,rt,rfl⟩
   ·obtain ⟨g0,gn,fg⟩:0<=g k/\g k<adj.length/\f (g k)=k:=by
     rcases hf.r k k0 km with h | h
     ·exact absurd h hgk
     ·exact h
    have hrec:=fun K=>ih (hqd m (setF s1 k true)) (by omega) (i:=g k) (f:=f) (g:=g) (s:=setF s1 k true) (K:=K) hf g0 gn (.inr (by rw [fg];exact aq1 _ _ _)) (Nat.le_refl _)
    repeat'(first|(with_reducible (refine sp (hK _ _ ?_);clear hK K))|(with_reducible refine vr [] fun K hK=>?_)|(with_reducible refine vd [] [] mixed fun K hK=>?_)|((with_reducible first|refine aqa fun K' hK'=>?_|refine aqb fun K' B hK' hB=>?_|refine aqn fun K' hK'=>?_|(apply aqk;refine aqe rfl fun K' hK'=>?_));simp[ms_F d,ms_L d,ms_R d,ms_S,ms_setS k0,ms_setR d k0,ms_setL d hi0,h15,h14,h13,h0,h1,ints,hlt,hkk,kt,k0,eB,eI,klB,klI,ilI,hsk,hgk,hit,hi0,cq7,aq5];repeat'(first|(with_reducible first|((first|refine hK' ?_|refine hB ?_);clear hK' hB K' B)|(apply hK';clear hK' K'))|((with_reducible refine hrec _ (fun s2 r2 n2=> ?_) (fun f2 g2 s2 r2=> ?_));try simp[ms_F d,ms_L d,ms_R d,ms_S,ms_setS k0,ms_setR d k0,ms_setL d hi0,h15,h14,h13,h0,h1,ints,hlt,hkk,kt,k0,eB,eI,klB,klI,ilI,hsk,hgk,hit,hi0,cq7,aq5])|(with_reducible refine And.intro ?_ ?_)|(clear hK' K';omega)))|(with_reducible first|apply aqc|refine sp ?_)|fail)
    all_goals try omega
    ·have hup:∀ y,s1 y=true->s2 y=true:=fun y hy=>r2.le y (by by_cases e:y=k;(· subst e;exact aq1 _ _ _);(· rw [aq4 _ _ e];exact hy))
     refine ⟨⟨q+1,s2,by omega,hrf.step hsk hgk r2 n2,htk s2 (fun y hy=>hup y (hall y hy)) (r2.le k (aq1 _ _ _)),by simp,by simp [h14],by simp [h13,ints],by simp [h0],by simp [h1],rfl⟩,by simp;omega⟩
    ·exact .inr ⟨_,_,_,by simp,rt_push hG hf hi0 hin hs hrf hkn hsk hgk r2,rfl⟩
 ·have:q=(nbM adj i).length:=by omega
  subst this
  rw [List.take_length] at hall
  repeat'(with_reducible first|(refine sp (hK _ _ ?_);clear hK K)|refine vr [] fun K hK=>?_|((first|refine aqa fun K' hK'=>?_|refine aqb fun K' B hK' hB=>?_);simp[h15,h14,h13,h0,h1];repeat'(first|((first|refine hK' ?_|refine hB ?_);clear hK' hB K' B)|(apply hK';clear hK' K')|fail))|apply aqc|refine sp ?_|fail)
  exact .inl ⟨s1,by simp,hrf,hall,rfl⟩
def mayM (n:Int) (adj:List (List Int)):Bool:=decide (0<=n)&&decide (n<=64)&&decide (adj.length<=64)&&adj.all fun l=>ptsB l n
theorem jqr {n:Int} {adj:List (List Int)}:mayM n adj=true↔∃ m:Nat,n=m/\GrM m adj:=by
 simp only [mayM,ptsB,Bool.and_eq_true,decide_eq_true_eq,List.all_eq_true,aqs]
 constructor
 ·rintro ⟨⟨⟨h0,h1⟩,h2⟩,h3⟩
  obtain ⟨m,rfl⟩:=Int.eq_ofNat_of_zero_le h0
  exact ⟨m,rfl,h2,by omega,fun l hl=>(h3 l hl).1,fun l hl x hx=>⟨((h3 l hl).1.ok x hx).1,(h3 l hl).2 x hx⟩⟩
 ·rintro ⟨m,rfl,h1,h2,h3,h4⟩
  exact ⟨⟨⟨by omega,by omega⟩,h1⟩,fun l hl=>⟨h3 l hl,fun x hx=>(h4 l hl x hx).2⟩⟩
theorem may82_at {l:List Int} {n:Int} (hl:aqz l) {H:Heap} {r:Nat} (hb:H r=some (.box [I n])):bqp Tryz.prog w0 209 [ints l,.ptr r 0 0] (B (!ptsB l n)) H:=by
 refine .of ?_
 refine aqf Tryz.func209 rfl Tryz.ntmps209 (ts:=[3]) rfl (by simp) (by kernel_rfl) ?_
 cases hr:aqw (-1) l with
 | false=>
  repeat'(with_reducible first|(refine sp (hK _ _ ?_);clear hK K)|refine vr [] fun K hK=>?_|(refine vd [] [] mixed fun K hK=>?_)|((first|refine aqa fun K' hK'=>?_|refine aqn fun K' hK'=>?_|(apply bq8;refine aqt rfl fun K' hK'=>?_));simp[ints,hr,hb];repeat'(first|(apply hK';clear hK' K')|refine Ret.use (dqj hl) ?_|fail))|apply aqc|refine sp ?_|fail)
  simp [ptsB,hr]
 | true=>
  by_cases hne:l=[]
  ·subst hne
   repeat'(first|(with_reducible (refine sp (hK _ _ ?_);clear hK K))|(with_reducible refine vr [] fun K hK=>?_)|(with_reducible refine vd [] [] mixed fun K hK=>?_)|((with_reducible first|refine aqa fun K' hK'=>?_|refine aqn fun K' hK'=>?_|(apply bq8;refine aqt rfl fun K' hK'=>?_));simp[ints,hr,hb];repeat'(first|(with_reducible (apply hK';clear hK' K'))|((with_reducible refine Ret.use_eq (dqj hl) ?_ ?_;(· simp));try simp[ints,hr,hb])|fail))|(with_reducible first|apply aqc|refine sp ?_)|fail)
   all_goals try simp [ptsB,hr]
  ·have hpos:=List.length_pos_iff.2 hne
   have hlt:l.length-1<l.length:=by omega
   have hlast:=fqo (n:=n) hr hne hlt
   have hi:((l.length:Int)-1).toNat=l.length-1:=by omega
   have hi0:(0:Int)<=(l.length:Int)-1:=by omega
   repeat'(with_reducible first|(refine sp (hK _ _ ?_);clear hK K)|refine vr [] fun K hK=>?_|(refine vd [] [] mixed fun K hK=>?_)|((first|refine aqa fun K' hK'=>?_|refine aqn fun K' hK'=>?_|(apply bq8;refine aqt rfl fun K' hK'=>?_));simp[ints,hr,hne,hi,hi0,hlt,hb];repeat'(first|(apply hK';clear hK' K')|refine Ret.use (dqj hl) ?_|refine And.intro ?_ ?_|intro hg|(clear hK' K';omega)))|apply aqc|refine sp ?_|fail)
   all_goals try omega
   all_goals try simp [ptsB,hr,hlast]
   all_goals (by_cases hq:l[l.length-1]<n<;>simp [hq]<;>omega)
theorem jqa {n:Int} {adj:List (List Int)} (ha:aqz adj) (hl:∀ l∈adj,aqz l):Ret Tryz.prog w0 193 [I n,rows adj] (B (mayM n adj)):=by
 intro H
 have hany:(!adj.any fun l=> !ptsB l n)=adj.all fun l=>ptsB l n:=by rw [List.all_eq_not_any_not]
 refine aqf Tryz.func193 rfl Tryz.ntmps193 (ts:=[4]) rfl (by simp) (by kernel_rfl) ?_
 by_cases h0:n<0
 ·repeat'(with_reducible first|(refine aqd (hK _ _ ?_);clear hK K)|refine vr [2] fun K hK=>?_|((first|refine aqa fun K' hK'=>?_|refine aqb fun K' B hK' hB=>?_|(apply aqk;refine aqe rfl fun K' hK'=>?_));simp[rows,h0];repeat'(first|((first|refine hK' ?_|refine hB ?_);clear hK' hB K' B)|(apply hK';clear hK' K')|intro hg|fail))|apply aqc|refine sp ?_|fail)
  all_goals exact ⟨by simp [mayM];omega,aqh (by assumption)⟩
 by_cases h1:64<n
 ·repeat'(with_reducible first|(refine aqd (hK _ _ ?_);clear hK K)|refine vr [2] fun K hK=>?_|((first|refine aqa fun K' hK'=>?_|refine aqb fun K' B hK' hB=>?_|(apply aqk;refine aqe rfl fun K' hK'=>?_));simp[rows,h0,h1];repeat'(first|((first|refine hK' ?_|refine hB ?_);clear hK' hB K' B)|(apply hK';clear hK' K')|intro hg|fail))|apply aqc|refine sp ?_|fail)
  all_goals exact ⟨by simp [mayM];omega,aqh (by assumption)⟩
 by_cases h2:adj.length<=64
 rotate_left
 ·have h2':(64:Int)<adj.length:=by omega
  repeat'(with_reducible first|(refine aqd (hK _ _ ?_);clear hK K)|refine vr [2] fun K hK=>?_|((first|refine aqa fun K' hK'=>?_|refine aqb fun K' B hK' hB=>?_|(apply aqk;refine aqe rfl fun K' hK'=>?_));simp[rows,h0,h1,h2'];repeat'(first|((first|refine hK' ?_|refine hB ?_);clear hK' hB K' B)|(apply hK';clear hK' K')|intro hg|fail))|apply aqc|refine sp ?_|fail)
  all_goals exact ⟨by simp [mayM];omega,aqh (by assumption)⟩
 have h2':¬(64:Int)<adj.length:=by omega
 repeat'(first|(with_reducible (refine aqd (hK _ _ ?_);clear hK K))|(with_reducible refine vr [2] fun K hK=>?_)|((with_reducible first|refine aqa fun K' hK'=>?_|refine aqb fun K' B hK' hB=>?_|(apply aqk;refine aqe rfl fun K' hK'=>?_));simp[rows,h0,h1,h2'];repeat'(first|(with_reducible first|((first|refine hK' ?_|refine hB ?_);clear hK' hB K' B)|(apply hK';clear hK' K'))|((with_reducible refine bqp.use (cqx (p:=fun l=> !ptsB l n) ha (fun l hm=>may82_at (hl l hm) (by simp))) ?_;try simp only [hany]);try simp[rows,h0,h1,h2'])|(with_reducible intro hg)|fail))|(with_reducible first|apply aqc|refine sp ?_)|fail)
 all_goals try omega
 have e:mayM n adj=adj.all fun l=>ptsB l n:=by simp [mayM,h2];omega
 refine ⟨by simp [e,<-hany],?_⟩
 exact aqh (by assumption)
theorem may6_ret {n:Int} {adj:List (List Int)} (ha:aqz adj) (hl:∀ l∈adj,aqz l):Ret Tryz.prog w0 156 [I n,rows adj] (B (mayM n adj)):=by
 intro H
 refine aqf Tryz.func156 rfl Tryz.ntmps156 (ts:=[4]) rfl (by simp) (by kernel_rfl) ?_
 repeat'(with_reducible first|(refine sp (hK _ _ ?_);clear hK K)|refine vr [] fun K hK=>?_|(refine aqa fun K' hK'=>?_;simp[rows];repeat'(first|(apply hK';clear hK' K')|fail))|refine sp ?_|fail)
 refine aqi (fun env h=>∃ k:Nat,k<=adj.length/\env 5=I k/\env 0=I n/\env 1=rows adj/\(∀ x∈adj.take k,ptsB x n=true)/\h=H) (fun env _=>adj.length-natA (env 5)) ?_ ?_
 ·exact ⟨0,by omega,by simp,by simp,by simp [rows],by simp,rfl⟩
 rintro env h ⟨k,hk,h5,h0,h1,ht,rfl⟩
 have hnat:natA (env 5)=k:=by simp [h5]
 rw [hnat];clear hnat
 by_cases hlt:k<adj.length
 ·have hlk:=hl adj[k] (List.getElem_mem _)
  have hgo:ptsB adj[k] n=true->∀ x∈adj.take (k+1),ptsB x n=true:=by
   intro hb x hx
   rw [List.take_succ_eq_append_getElem hlt,List.mem_append,List.mem_singleton] at hx
   rcases hx with hx | rfl
   ·exact ht x hx
   ·exact hb
  have hno:ptsB adj[k] n=false->mayM n adj=false:=by
   intro hb
   cases hm:mayM n adj with
   | false=>rfl
   | true=>
    simp only [mayM,Bool.and_eq_true,List.all_eq_true] at hm
    rw [hm.2 _ (List.getElem_mem hlt)] at hb;cases hb
  obtain ⟨l,hle⟩:∃ l,l=adj[k]:=⟨_,rfl⟩
  have hadj:∀ h,adj[k]'h=l:=fun _=>hle.symm
  rw [<-hle] at hlk hgo hno
  cases hr:aqw (-1) l with
  | false=>
   have hb:ptsB l n=false:=by simp [ptsB,hr]
   repeat'(with_reducible first|(refine sp (hK _ _ ?_);clear hK K)|refine vr [] fun K hK=>?_|(refine vd [] [] mixed fun K hK=>?_)|((first|refine aqa fun K' hK'=>?_|refine aqb fun K' B hK' hB=>?_|refine aqn fun K' hK'=>?_|(apply bq8;refine aqt rfl fun K' hK'=>?_));simp[h5,h0,h1,rows,hlt,hadj,hr];repeat'(first|((first|refine hK' ?_|refine hB ?_);clear hK' hB K' B)|(apply hK';clear hK' K')|refine Ret.use (cqo hlk) ?_|fail))|apply aqc|refine sp ?_|fail)
   simp [hno hb]
  | true=>
   by_cases hne:l=[]
   ·subst hne
    have hb:ptsB [] n=true:=by simp [ptsB,hr]
    repeat'(first|(with_reducible (refine sp (hK _ _ ?_);clear hK K))|(with_reducible refine vr [] fun K hK=>?_)|(with_reducible refine vd [] [] mixed fun K hK=>?_)|((with_reducible first|refine aqa fun K' hK'=>?_|refine aqb fun K' B hK' hB=>?_|refine aqn fun K' hK'=>?_|(apply bq8;refine aqt rfl fun K' hK'=>?_));simp[h5,h0,h1,rows,hlt,hadj,hr,ints];repeat'(first|(with_reducible first|((first|refine hK' ?_|refine hB ?_);clear hK' hB K' B)|(apply hK';clear hK' K'))|((with_reducible refine Ret.use_eq (cqo hlk) ?_ ?_;(· simp [ints]));try simp[h5,h0,h1,rows,hlt,hadj,hr,ints])|(with_reducible refine And.intro ?_ ?_)|(clear hK' K';omega)))|(with_reducible refine sp ?_)|fail)
    all_goals try omega
    exact ⟨⟨k+1,by omega,by simp,by simp [h0],by simp [h1,rows],hgo hb,rfl⟩,by simp;omega⟩
   ·have hpos:=List.length_pos_iff.2 hne
    have hll:l.length-1<l.length:=by omega
    have hlast:=fqo (n:=n) hr hne hll
    have hi:((l.length:Int)-1).toNat=l.length-1:=by omega
    have hi0:(0:Int)<=(l.length:Int)-1:=by omega
    by_cases hn:l[l.length-1]<n
    ·have hb:ptsB l n=true:=by simp [ptsB,hr,hlast,hn]
     have hn':¬n<=l[l.length-1]:=by omega
     repeat'(first|(with_reducible (refine sp (hK _ _ ?_);clear hK K))|(with_reducible refine vr [] fun K hK=>?_)|(with_reducible refine vd [] [] mixed fun K hK=>?_)|((with_reducible first|refine aqa fun K' hK'=>?_|refine aqb fun K' B hK' hB=>?_|refine aqn fun K' hK'=>?_|(apply bq8;refine aqt rfl fun K' hK'=>?_));simp[h5,h0,h1,rows,hlt,hadj,hr,ints,hne,hi,hi0,hll,hn'];repeat'(first|(with_reducible first|((first|refine hK' ?_|refine hB ?_);clear hK' hB K' B)|(apply hK';clear hK' K'))|((with_reducible refine Ret.use_eq (cqo hlk) ?_ ?_;(· simp [ints]));try simp[h5,h0,h1,rows,hlt,hadj,hr,ints,hne,hi,hi0,hll,hn'])|(with_reducible first|refine And.intro ?_ ?_|intro hg)|(clear hK' K';omega)))|(with_reducible refine sp ?_)|fail)
     all_goals try omega
     exact ⟨⟨k+1,by omega,by simp,by simp [h0],by simp [h1,rows],hgo hb,rfl⟩,by simp;omega⟩
    ·have hb:ptsB l n=false:=by simp [ptsB,hr,hlast,hn]
     have hn':n<=l[l.length-1]:=by omega
     repeat'(first|(with_reducible (refine sp (hK _ _ ?_);clear hK K))|(with_reducible refine vr [] fun K hK=>?_)|(with_reducible refine vd [] [] mixed fun K hK=>?_)|((with_reducible first|refine aqa fun K' hK'=>?_|refine aqb fun K' B hK' hB=>?_|refine aqn fun K' hK'=>?_|(apply bq8;refine aqt rfl fun K' hK'=>?_));simp[h5,h0,h1,rows,hlt,hadj,hr,ints,hne,hi,hi0,hll,hn'];repeat'(first|(with_reducible first|((first|refine hK' ?_|refine hB ?_);clear hK' hB K' B)|(apply hK';clear hK' K'))|((with_reducible refine Ret.use_eq (cqo hlk) ?_ ?_;(· simp [ints]));try simp[h5,h0,h1,rows,hlt,hadj,hr,ints,hne,hi,hi0,hll,hn'])|(with_reducible first|refine And.intro ?_ ?_|intro hg)|(clear hK' K';omega)))|(with_reducible first|apply aqc|refine sp ?_)|fail)
     all_goals try omega
     all_goals simp [hno hb]
 ·have:k=adj.length:=by omega
  subst this
  rw [List.take_length] at ht
  have hm:mayM n adj=(decide (0<=n)&&decide (n<=64)&&decide (adj.length<=64)):=by
   simp only [mayM]
   rw [List.all_eq_true.2 ht,Bool.and_true]
  repeat'(with_reducible first|(refine sp (hK _ _ ?_);clear hK K)|refine vr [] fun K hK=>?_|((first|refine aqa fun K' hK'=>?_|refine aqb fun K' B hK' hB=>?_|(apply aqk;refine aqe rfl fun K' hK'=>?_));simp[h5,h0,h1,rows];repeat'(first|((first|refine hK' ?_|refine hB ?_);clear hK' hB K' B)|(apply hK';clear hK' K')|refine And.intro ?_ ?_|intro hg|fail))|apply aqc|refine sp ?_|fail)
  all_goals simp [hm]
  all_goals first | omega | (rw [Bool.eq_iff_iff];simp;omega)
theorem labI_rep (n:Nat) (x:Int):(List.replicate n x).map I=labI n (fun _=>x):=by
 rw [labI,List.map_replicate]
 have:(upto n).length=n:=aqv n
 generalize upto n=l at this
 subst this
 induction l with
 | nil=>rfl
 | cons a l ih=>simp only [List.length_cons,List.replicate_succ,List.map_cons,ih]
theorem labB_rep (n:Nat) (x:Bool):List.replicate n (B x)=labB n (fun _=>x):=by
 rw [labB]
 have:(upto n).length=n:=aqv n
 generalize upto n=l at this
 subst this
 induction l with
 | nil=>rfl
 | cons a l ih=>simp only [List.length_cons,List.replicate_succ,List.map_cons,ih]
def mf (H:Heap) (F L R:Nat) (adj:List (List Int)) (m:Nat) (f g:Int->Int) (z:AV):Heap:=
 upd (upd (upd H L (some (.arr 1 3 (labI adj.length f) adj.length))) R (some (.arr 1 3 (labI m g) m))) F (some (.box [rows adj,.ref L 0 adj.length adj.length,.ref R 0 m m,z]))
structure Dt (H:Heap) (F L R:Nat):Prop where
 lr:L≠R
 lf:L≠F
 rf:R≠F
 hF:H F=none
 hL:H L=none
 hR:H R=none
section
variable {H:Heap} {F L R S m:Nat} {adj:List (List Int)} {f g:Int->Int} {s:Int->Bool} {z:AV} (d:Dt H F L R)
theorem mf_F:mf H F L R adj m f g z F=some (.box [rows adj,.ref L 0 adj.length adj.length,.ref R 0 m m,z]):=by simp [mf]
include d
theorem mf_L:mf H F L R adj m f g z L=some (.arr 1 3 (labI adj.length f) adj.length):=by simp [mf,d.lf,d.lr]
theorem mq3 (h:mf H F L R adj m f g z S=none):S≠F/\S≠L/\S≠R/\H S=none:=by
 unfold mf at h
 by_cases e1:S=F
 ·subst e1;simp [aqj] at h
 rw [aqm _ _ _ e1] at h
 by_cases e2:S=R
 ·subst e2;simp [aqj] at h
 rw [aqm _ _ _ e2] at h
 by_cases e3:S=L
 ·subst e3;simp [aqj] at h
 rw [aqm _ _ _ e3] at h
 exact ⟨e1,e3,e2,h⟩
theorem mf_sub:Sub H (mf H F L R adj m f g z):=(((Sub.refl H).upd d.hL _).upd d.hR _).upd d.hF _
theorem Dt.ds (h:mf H F L R adj m f g z S=none):Ds F L R S:=by
 obtain ⟨a,b,c,e⟩:=mq3 d h
 exact ⟨d.lr,d.lf,Ne.symm b,d.rf,Ne.symm c,Ne.symm a⟩
theorem mf_ms (h:mf H F L R adj m f g z S=none):upd (upd (mf H F L R adj m f g z) S (some (.arr 1 4 (labB m s) m))) F (some (.box [rows adj,.ref L 0 adj.length adj.length,.ref R 0 m m,.ref S 0 m m]))=ms H F L R S adj m f g s:=by
 obtain ⟨a,b,c,e⟩:=mq3 d h
 unfold mf ms
 rw [aq9 _ _ _ a,aqx]
theorem ms_sub (h:mf H F L R adj m f g z S=none) {f' g':Int->Int} {s':Int->Bool}:Sub (mf H F L R adj m f' g' (.ref S 0 m m)) (ms H F L R S adj m f' g' s'):=by
 obtain ⟨a,b,c,e⟩:=mq3 d h
 have:mf H F L R adj m f' g' (.ref S 0 m m) S=none:=by
  unfold mf
  rw [aqm _ _ _ a,aqm _ _ _ c,aqm _ _ _ b,e]
 exact aqh this
end
set_option maxHeartbeats 4000000 in
theorem greatest_use {H:Heap} {m:Nat} {adj:List (List Int)} (hG:GrM m adj) {K:AV->Heap->Prop}
  (k:∀ F L R f g z,Dt H F L R->MInv m adj adj.length f g->K (.ptr F 0 0) (mf H F L R adj m f g z)):aqo Tryz.prog w0 199 [I m,rows adj] H K:=by
 refine (?_:aqo Tryz.prog w0 199 [I m,rows adj] H (fun v H'=>∃ F L R f g z,Dt H F L R/\MInv m adj adj.length f g/\v= .ptr F 0 0/\Sub (mf H F L R adj m f g z) H')).drop ?_
 rotate_left
 ·rintro v H' ⟨F,L,R,f,g,z,d,hi,rfl,s⟩
  exact ⟨_,s,k F L R f g z d hi⟩
 clear k K
 have hn:=hG.nle
 have hm:=hG.mle
 refine aqf Tryz.func199 rfl Tryz.ntmps199 (ts:=[4]) rfl (by simp) (by kernel_rfl) ?_
 repeat'(first|(with_reducible (refine aqd (hK _ _ ?_);clear hK K))|(with_reducible refine vr [] fun K hK=>?_)|((with_reducible refine aqa fun K' hK'=>?_);simp[rows];repeat'(first|(with_reducible (apply hK';clear hK' K'))|((with_reducible refine iqi.use (iqn (x:= -1) (n:=adj.length) (by omega)) (fun L hL=> ?_));try simp[rows])|((with_reducible refine iqi.use (iqn (x:= -1) (n:=m) (by omega)) (fun R hR=> ?_));try simp[rows])|(with_reducible intro hg)|fail))|(with_reducible refine sp ?_)|fail)
 rename_i F
 have hRL:R≠L:=by rintro rfl;simp at hR
 have hR0:H R=none:=by rw [aqm _ _ _ hRL] at hR;exact hR
 have hFR:F≠R:=by rintro rfl;simp at hg
 have hFL:F≠L:=by rintro rfl;simp [hFR] at hg
 have hF0:H F=none:=by
  rw [if_neg hFR,if_neg hFL] at hg
  exact hg
 clear hg hR
 have d:Dt H F L R:=⟨Ne.symm hRL,Ne.symm hFL,Ne.symm hFR,hF0,hL,hR0⟩
 refine fqe (fun env h=>∃ (i:Nat) (f g:Int->Int) (z:AV),i<=adj.length/\MInv m adj i f g/\env 19=I i/\env 18=I adj.length/\env 5= .ptr F 0 0/\env 0=I m/\h=mf H F L R adj m f g z)
  (fun env h=>∃ (i:Nat) (f g:Int->Int) (z:AV),i<=adj.length/\MInv m adj i f g/\env 19=I i/\env 18=I adj.length/\env 5= .ptr F 0 0/\env 0=I m/\Sub (mf H F L R adj m f g z) h) (fun env _=>adj.length-natA (env 19)) ?_ ?_ ?_
 ·refine ⟨0,fun _=> -1,fun _=> -1,.sc (.slice none 0 0),by omega,.start m adj,by simp,by simp,by simp,by simp,?_⟩
  rw [mf,<-labI_rep,<-labI_rep]
  simp only [List.map_replicate,rows]
  exact .refl _
 ·rintro env h ⟨i,f,g,z,a1,a2,a3,a4,a5,a6,s⟩ Q' q
  exact AWP.sub s (q env _ ⟨i,f,g,z,a1,a2,a3,a4,a5,a6,rfl⟩ rfl)
 rintro env h ⟨i,f,g,z,hi,hinv,h19,h18,h5,h0,rfl⟩
 have hnat:natA (env 19)=i:=by simp [h19]
 rw [hnat];clear hnat
 by_cases hlt:i<adj.length
 ·repeat'(with_reducible first|(refine aqd (hK _ _ ?_);clear hK K)|((fail_if_success(refine aql 6 ?_));(fail_if_success(refine(?_:AWP _ _ _ (Code.region 6 _ _) _ _ _)));refine vr [] fun K hK=>?_)|((first|refine aqa fun K' hK'=>?_|refine aqb fun K' B hK' hB=>?_);simp[h19,h18,h5,h0,hlt,mf_F];repeat'(first|((first|refine hK' ?_|refine hB ?_);clear hK' hB K' B)|(apply hK';clear hK' K')|refine And.intro ?_ ?_|intro hg|(clear hK' K';omega)))|((fail_if_success(refine aql 6 ?_));refine sp ?_)|fail)
  rename_i S
  have hSn:=mq3 d hg
  have hFS:F≠S:=Ne.symm hSn.1
  have hms:=mf_ms (s:=fun _=>false) d hg
  rw [<-labB_rep] at hms
  simp [hFS]
  rw [hms]
  with_reducible refine hK' _ _ ?_
  clear hK' K'
  have hreach:=fun K=>reach_use (w0:=w0) (H:=H) (Dt.ds d hg) hG (hqd m fun _=>false) (i:=i) (f:=f) (g:=g) (s:=fun _=>false) (K:=K) hinv.good (by omega) (by omega) (.inl (hinv.later i (by omega) (by omega))) (Nat.le_refl _)
  repeat'(first|(with_reducible (refine aqd (hK _ _ ?_);clear hK K))|(with_reducible refine vr [] fun K hK=>?_)|((with_reducible refine aqa fun K' hK'=>?_);simp[h19,h18,h5,h0,hlt,mf_F];repeat'(first|(with_reducible (apply hK';clear hK' K'))|((with_reducible refine hreach _ (fun s2 r2 n2=> ?_) (fun f2 g2 s2 r2=> ?_));try simp[h19,h18,h5,h0,hlt,mf_F])|(with_reducible refine And.intro ?_ ?_)|(clear hK' K';omega)))|(with_reducible refine sp ?_)|fail)
  ·exact ⟨⟨i+1,f,g,_,by omega,hinv.no hlt r2 n2,by simp,by simp [h18],by simp [h5],by simp [h0],ms_sub d hg⟩,by simp;omega⟩
  ·exact ⟨⟨i+1,f2,g2,_,by omega,hinv.yes hlt r2,by simp,by simp [h18],by simp [h5],by simp [h0],ms_sub d hg⟩,by simp;omega⟩
 ·have:i=adj.length:=by omega
  subst this
  repeat'(with_reducible first|(refine aqd (hK _ _ ?_);clear hK K)|refine vr [] fun K hK=>?_|((first|refine aqa fun K' hK'=>?_|refine aqb fun K' B hK' hB=>?_);simp[h19,h18,h5,h0];repeat'(first|((first|refine hK' ?_|refine hB ?_);clear hK' hB K' B)|(apply hK';clear hK' K')|fail))|apply aqc|refine sp ?_|fail)
  exact ⟨F,L,R,f,g,z,d,hinv,by simp,.refl _⟩
theorem len64_zero:Ret Tryz.prog w0 145 [.sc (.int .u64 0)] (I 0):=by
 intro H
 refine aqf Tryz.func145 rfl Tryz.ntmps145 (ts:=[2]) rfl (by simp) (by kernel_rfl) ?_
 repeat'(with_reducible first|(refine aqd (hK _ _ ?_);clear hK K)|((fail_if_success(refine aql 10 ?_));(fail_if_success(refine(?_:AWP _ _ _ (Code.region 10 _ _) _ _ _)));refine vr [] fun K hK=>?_)|((first|refine aqa fun K' hK'=>?_|refine aqb fun K' B hK' hB=>?_);simp[IntKind.bits];repeat'(first|((first|refine hK' ?_|refine hB ?_);clear hK' hB K' B)|(apply hK';clear hK' K')|fail))|((fail_if_success(refine aql 10 ?_));refine sp ?_)|fail)
 generalize hs:Value.string _=v
 obtain ⟨s,rfl,h1,h2⟩:∃ s:ByteArray,v= .string s/\∃ h:0<s.size,s[0]=0:=⟨_,hs.symm,by decide +kernel,by decide +kernel⟩
 clear hs
 have w8:IntKind.u8.wrap 0=0:=by decide
 repeat'(with_reducible first|(refine aqd (hK _ _ ?_);clear hK K)|refine vr [] fun K hK=>?_|(refine aqa fun K' hK'=>?_;simp[IntKind.bits,h1,h2,w8];repeat'(first|(apply hK';clear hK' K')|fail))|apply aqc|refine sp ?_|fail)
 simp
theorem len_zero:Ret Tryz.prog w0 111 [.sc (.int .u64 0)] (I 0):=by
 intro H
 refine aqf Tryz.func111 rfl Tryz.ntmps111 (ts:=[2]) rfl (by simp) (by kernel_rfl) ?_
 repeat'(with_reducible first|(refine aqd (hK _ _ ?_);clear hK K)|refine vr [] fun K hK=>?_|((first|refine aqa fun K' hK'=>?_|refine aqb fun K' B hK' hB=>?_);simp;repeat'(first|((first|refine hK' ?_|refine hB ?_);clear hK' hB K' B)|(apply hK';clear hK' K')|refine Ret.use len64_zero ?_|fail))|apply aqc|refine sp ?_|fail)
 simp
theorem kq9:Ret Tryz.prog w0 135 [.sl [] 0,I 0,I 0] (.tup []):=by
 intro H
 refine aqf Tryz.func135 rfl Tryz.ntmps135 (ts:=[]) rfl (by simp) (by kernel_rfl) ?_
 repeat'(with_reducible first|(refine sp (hK _ _ ?_);clear hK K)|refine vr [] fun K hK=>?_|(refine aqa fun K' hK'=>?_;simp;repeat'(first|(apply hK';clear hK' K')|fail))|refine sp ?_|fail)
 refine aqi (fun env h=>env 6=I 1/\env 2=I 0/\h=H) (fun _ _=>0) ?_ ?_
 ·exact ⟨by simp,by simp,rfl⟩
 rintro env h ⟨h6,h2,rfl⟩
 repeat'(with_reducible first|(refine sp (hK _ _ ?_);clear hK K)|refine vr [] fun K hK=>?_|((first|refine aqa fun K' hK'=>?_|refine aqb fun K' B hK' hB=>?_);simp[h6,h2];repeat'(first|((first|refine hK' ?_|refine hB ?_);clear hK' hB K' B)|(apply hK';clear hK' K')|fail))|refine sp ?_|fail)
 all_goals simp
theorem pdq_zero:Ret Tryz.prog w0 110 [.sl [] 0,I 0,I 0,I 0] (.tup []):=by
 intro H
 refine aqf Tryz.func110 rfl Tryz.ntmps110 (ts:=[]) rfl (by simp) (by kernel_rfl) ?_
 repeat'(with_reducible first|(refine sp (hK _ _ ?_);clear hK K)|refine vr [] fun K hK=>?_|(refine aqa fun K' hK'=>?_;simp;repeat'(first|(apply hK';clear hK' K')|fail))|refine sp ?_|fail)
 refine aqi (fun env h=>env 0= .sl [] 0/\env 1=I 0/\env 2=I 0/\h=H) (fun _ _=>0) ?_ ?_
 ·exact ⟨by simp,by simp,by simp,rfl⟩
 rintro env h ⟨h0,h1,h2,rfl⟩
 repeat'(with_reducible first|(refine sp (hK _ _ ?_);clear hK K)|refine vr [] fun K hK=>?_|((first|refine aqa fun K' hK'=>?_|refine aqb fun K' B hK' hB=>?_);simp[h0,h1,h2];repeat'(first|((first|refine hK' ?_|refine hB ?_);clear hK' hB K' B)|(apply hK';clear hK' K')|refine Ret.use kq9 ?_|fail))|apply aqc|refine sp ?_|fail)
 all_goals simp
theorem kqb:Ret Tryz.prog w0 73 [.sl [] 0] (.tup []):=by
 intro H
 have w0:IntKind.u64.wrap 0=0:=by decide
 refine aqf Tryz.func73 rfl Tryz.ntmps73 (ts:=[]) rfl (by simp) (by kernel_rfl) ?_
 repeat'(with_reducible first|(refine aqd (hK _ _ ?_);clear hK K)|refine vr [] fun K hK=>?_|(refine aqa fun K' hK'=>?_;simp[w0];repeat'(first|(apply hK';clear hK' K')|refine Ret.use len_zero ?_|refine Ret.use pdq_zero ?_|fail))|refine sp ?_|fail)
 all_goals simp
end Go.Am
namespace Go.Am
open Go
set_option linter.unusedVariables false
set_option linter.unusedSimpArgs false
def bqe (adj:List (List Int)):List (List Int):=(upto adj.length).map fun u=>(upto adj.length).filter fun v=>decide (u∈out adj v)
theorem bqh (adj:List (List Int)):(bqe adj).length=adj.length:=by simp [bqe]
theorem jqo {adj:List (List Int)} {u v:Int} (hu:0<=u/\u<adj.length):v∈out (bqe adj) u↔(0<=v/\v<adj.length)/\u∈out adj v:=by
 have h:u.toNat<(bqe adj).length:=by rw [bqh];omega
 rw [out_eq h]
 simp only [bqe,List.getElem_map,cqm,List.mem_filter,aqq,decide_eq_true_eq]
 rw [show ((u.toNat:Nat):Int)=u by omega]
theorem eqf {adj:List (List Int)} (hg:Gr adj):Gr (bqe adj):=by
 have hlen:=hg.len
 refine ⟨by rw [bqh];exact hg.len,fun l hl=> ?_⟩
 rw [bqh]
 obtain ⟨u,_,rfl⟩:=List.mem_map.1 hl
 exact ⟨(cqd (by omega)).filter _,fun x hx=>aqq.1 (List.mem_filter.1 hx).1⟩
def Wk (adj:List (List Int)):Nat->Int->Int->Prop
 | 0,u,x=>u=x
 | k+1,u,x=>Wk adj k u x\/∃ y,Wk adj k u y/\x∈out adj y
theorem Wk.front {adj:List (List Int)} {k:Nat}:∀ {u x:Int},Wk adj (k+1) u x↔Wk adj k u x\/∃ y∈out adj u,Wk adj k y x:=by
 induction k with
 | zero=>
  intro u x
  simp only [Wk]
  constructor
  ·rintro (h | ⟨y,rfl,h⟩)
   ·exact .inl h
   ·exact .inr ⟨x,h,rfl⟩
  ·rintro (h | ⟨y,h,rfl⟩)
   ·exact .inl h
   ·exact .inr ⟨u,rfl,h⟩
 | succ k ih=>
  intro u x
  constructor
  ·rintro (h | ⟨y,h,hx⟩)
   ·exact .inl h
   ·rcases ih.1 h with h | ⟨z,hz,h⟩
    ·exact .inl (.inr ⟨y,h,hx⟩)
    ·exact .inr ⟨z,hz,.inr ⟨y,h,hx⟩⟩
  ·rintro (h | ⟨y,hy,h | ⟨z,h,hx⟩⟩)
   ·exact .inl h
   ·exact .inl (ih.2 (.inr ⟨y,hy,h⟩))
   ·exact .inr ⟨z,ih.2 (.inr ⟨y,hy,h⟩),hx⟩
section
variable {adj:List (List Int)} (hg:Gr adj)
include hg
theorem Wk.lt {k:Nat} {u x:Int} (h:Wk adj k u x) (hu:0<=u/\u<adj.length):0<=x/\x<adj.length:=by
 induction k generalizing x with
 | zero=>simp only [Wk] at h;subst h;exact hu
 | succ k ih=>
  rcases h with h | ⟨y,h,hx⟩
  ·exact ih h
  ·exact (dqz hg y).lt x hx
theorem jqt {l:List Int} (hl:Pts adj.length l) {k:Nat} {x:Int}:x∈levL adj l k↔∃ u∈l,Wk adj k u x:=by
 induction k generalizing x with
 | zero=>simp [levL,Wk]
 | succ k ih=>
  rw [gqz hg hl,ih]
  simp only [Wk]
  constructor
  ·rintro (⟨u,hu,h⟩ | ⟨y,hy,hx⟩)
   ·exact ⟨u,hu,.inl h⟩
   ·obtain ⟨u,hu,h⟩:=ih.1 hy
    exact ⟨u,hu,.inr ⟨y,h,hx⟩⟩
  ·rintro ⟨u,hu,h | ⟨y,h,hx⟩⟩
   ·exact .inl ⟨u,hu,h⟩
   ·exact .inr ⟨y,ih.2 ⟨u,hu,h⟩,hx⟩
theorem turn_walk {k:Nat}:∀ {u x:Int},(0<=u/\u<adj.length)->(0<=x/\x<adj.length)->(Wk (bqe adj) k x u↔Wk adj k u x):=by
 induction k with
 | zero=>intro u x _ _;simp only [Wk];exact eq_comm
 | succ k ih=>
  intro u x hu hx
  rw [Wk.front (adj:=adj)]
  simp only [Wk]
  constructor
  ·rintro (h | ⟨y,h,hy⟩)
   ·exact .inl ((ih hu hx).1 h)
   ·have hyl:0<=y/\y<adj.length:=by
     have:=Wk.lt (eqf hg) h (by rw [bqh];exact hx)
     rwa [bqh] at this
    have:=(jqo hyl).1 hy
    exact .inr ⟨y,this.2,(ih hyl hx).1 h⟩
  ·rintro (h | ⟨y,hy,h⟩)
   ·exact .inl ((ih hu hx).2 h)
   ·have hyl:=(dqz hg u).lt y hy
    exact .inr ⟨y,(ih hyl hx).2 h,(jqo hyl).2 ⟨hu,hy⟩⟩
end
section
variable {adj:List (List Int)} (hg:Gr adj) {to:List Int} (ht:Pts adj.length to)
include hg ht
omit hg in
theorem dqo:Pts (bqe adj).length to:=by rw [bqh];exact ht
theorem dt_zero {v:Int}:bqc (bqe adj) to v=0↔v∈to:=by
 have hgt:=eqf hg
 have hpt:=dqo ht
 rcases cq9 hgt hpt (v:=v) with ⟨d,h1,h2,h3,h4⟩ | ⟨h1,h2⟩
 ·rw [h2]
  constructor
  ·intro h
   have:d=0:=by omega
   subst this;exact h3
  ·intro h
   rcases Nat.eq_zero_or_pos d with hd | hd
   ·omega
   ·exact absurd h (h4 0 hd)
 ·rw [h1]
  constructor
  ·intro h;omega
  ·intro h;exact absurd h (h2 0)
theorem dt_arc {u v:Int} (hv:0<=v/\v<adj.length) (hu:u∈out adj v) (h0:0<=bqc (bqe adj) to u):0<=bqc (bqe adj) to v/\bqc (bqe adj) to v<=bqc (bqe adj) to u+1:=by
 have hgt:=eqf hg
 have hpt:=dqo ht
 have hul:=(dqz hg v).lt u hu
 rcases cq9 hgt hpt (v:=u) with ⟨d,h1,h2,h3,h4⟩ | ⟨h1,h2⟩
 ·have:v∈levL (bqe adj) to (d+1):=(gqz hgt hpt).2 (.inr ⟨u,h3,(jqo hul).2 ⟨hv,hu⟩⟩)
  have:=dist_le hgt hpt this
  rw [h2];omega
 ·omega
theorem dt_next {v:Int} (hv:0<=v/\v<adj.length) (h0:0<bqc (bqe adj) to v):∃ u∈out adj v,bqc (bqe adj) to u=bqc (bqe adj) to v-1:=by
 have hgt:=eqf hg
 have hpt:=dqo ht
 rcases cq9 hgt hpt (v:=v) with ⟨d,h1,h2,h3,h4⟩ | ⟨h1,h2⟩
 ·obtain ⟨k,rfl⟩:∃ k,d=k+1:=⟨d-1,by omega⟩
  rcases (gqz hgt hpt).1 h3 with h | ⟨y,hy,hvy⟩
  ·exact absurd h (h4 k (by omega))
  ·have hyl:0<=y/\y<adj.length:=by have:=(eqm hgt hpt k).lt y hy;rwa [bqh] at this
   have hvo:=((jqo hyl).1 hvy).2
   have hle:=dist_le hgt hpt hy
   have:=dt_arc hg ht hv hvo hle.1
   exact ⟨y,hvo,by omega⟩
 ·omega
end
def cqz (d:Int->Int) (l:List Int):Int:=l.foldl (fun best x=>if 0<=d x/\(best<0\/d x<d best) then x else best) (-1)
theorem gq2 {d:Int->Int} {l:List Int} {k:Nat} (h:k<l.length):cqz d (l.take (k+1))=if 0<=d l[k]/\(cqz d (l.take k)<0\/d l[k]<d (cqz d (l.take k))) then l[k] else cqz d (l.take k):=by
 unfold cqz
 rw [List.take_succ_eq_append_getElem h,List.foldl_append]
 rfl
theorem gq3 {d:Int->Int} {l:List Int} (hl:∀ x∈l,0<=x):(cqz d l= -1/\∀ x∈l,d x<0)\/
  (∃ (k:Nat) (h:k<l.length),cqz d l=l[k]/\0<=d l[k]/\(∀ x∈l,0<=d x->d l[k]<=d x)/\∀ (j:Nat) (hj:j<k),d l[j]<0\/d l[k]<d l[j]):=by
 have key:∀ k,k<=l.length->(cqz d (l.take k)= -1/\∀ x∈l.take k,d x<0)\/
   (∃ (i:Nat) (h:i<l.length),i<k/\cqz d (l.take k)=l[i]/\0<=d l[i]/\(∀ x∈l.take k,0<=d x->d l[i]<=d x)/\∀ (j:Nat) (hj:j<i),d l[j]<0\/d l[i]<d l[j]):=by
  intro k
  induction k with
  | zero=>intro _;exact .inl ⟨rfl,by simp⟩
  | succ k ih=>
   intro hk
   have hkl:k<l.length:=by omega
   rw [gq2 hkl]
   have hm:∀ x,x∈l.take (k+1)↔x∈l.take k\/x=l[k]:=by
    intro x;rw [List.take_succ_eq_append_getElem hkl,List.mem_append,List.mem_singleton]
   have hmj:∀ (j:Nat) (hj:j<k),l[j]∈l.take k:=fun j hj=>by rw [List.mem_take_iff_getElem];exact ⟨j,by omega,rfl⟩
   rcases ih (by omega) with ⟨h1,h2⟩ | ⟨i,hi,hik,h1,h2,h3,h4⟩
   ·rw [h1]
    by_cases hd:0<=d l[k]
    ·rw [if_pos ⟨hd,.inl (by omega)⟩]
     refine .inr ⟨k,hkl,by omega,rfl,hd,fun x hx h0=> ?_,fun j hj=> .inl (h2 _ (hmj j hj))⟩
     rcases (hm x).1 hx with hx | rfl
     ·have:=h2 x hx;omega
     ·omega
    ·rw [if_neg (fun h=>hd h.1)]
     refine .inl ⟨rfl,fun x hx=> ?_⟩
     rcases (hm x).1 hx with hx | rfl
     ·exact h2 x hx
     ·omega
   ·rw [h1]
    have hp:=hl l[i] (List.getElem_mem _)
    by_cases hd:0<=d l[k]/\(l[i]<0\/d l[k]<d l[i])
    ·rw [if_pos hd]
     have hlt:d l[k]<d l[i]:=by rcases hd.2 with h | h<;>omega
     refine .inr ⟨k,hkl,by omega,rfl,hd.1,fun x hx h0=> ?_,fun j hj=> ?_⟩
     ·rcases (hm x).1 hx with hx | rfl
      ·have:=h3 x hx h0;omega
      ·omega
     ·by_cases h0:d l[j]<0
      ·exact .inl h0
      ·have:=h3 _ (hmj j hj) (by omega);exact .inr (by omega)
    ·rw [if_neg hd]
     refine .inr ⟨i,hi,by omega,rfl,h2,fun x hx h0=> ?_,h4⟩
     rcases (hm x).1 hx with hx | rfl
     ·exact h3 x hx h0
     ·rcases Int.lt_or_le (d l[k]) (d l[i]) with h | h
      ·exact absurd ⟨h0,.inr h⟩ hd
      ·exact h
 have:=key l.length (Nat.le_refl _)
 rw [List.take_length] at this
 rcases this with h | ⟨i,hi,_,h⟩
 ·exact .inl h
 ·exact .inr ⟨i,hi,h⟩
def fqw (d:Int->Int) (l:List Int) (k:Int):Int:=(l.find? fun u=>decide (d u=k)).getD (-1)
theorem nextL_spec {d:Int->Int} {l:List Int} {k:Int} (h:∃ u∈l,d u=k):fqw d l k∈l/\d (fqw d l k)=k:=by
 unfold fqw
 cases hf:l.find? fun u=>decide (d u=k) with
 | none=>
  rw [List.find?_eq_none] at hf
  obtain ⟨u,hu,e⟩:=h
  exact absurd e (by simpa using hf u hu)
 | some u=>exact ⟨List.mem_of_find?_eq_some hf,by simpa using List.find?_some hf⟩
theorem next_least {d:Int->Int} {l:List Int} {k:Int} (hk:0<=k) (hl:∀ x∈l,0<=x) (h:∃ u∈l,d u=k) (hmin:∀ u∈l,0<=d u->k<=d u):cqz d l=fqw d l k:=by
 obtain ⟨u,hu,hd⟩:=h
 rcases gq3 (d:=d) hl with ⟨h1,h2⟩ | ⟨i,hi,h1,h2,h3,h4⟩
 ·have:=h2 u hu;omega
 ·have h5:=h3 u hu (by omega)
  have h6:=hmin l[i] (List.getElem_mem _) h2
  have e:d l[i]=k:=by omega
  rw [h1,fqw]
  have:l.find? (fun u=>decide (d u=k))=some l[i]:=by
   rw [List.find?_eq_some_iff_getElem]
   refine ⟨by simpa using e,i,hi,rfl,fun j hj=> ?_⟩
   have:=h4 j hj
   simp
   omega
  rw [this];rfl
def wayL (adj:List (List Int)) (d:Int->Int):Nat->Int->List Int
 | 0,v=>[v]
 | k+1,v=>v::wayL adj d k (fqw d (out adj v) k)
def jqj (adj:List (List Int)) (fr to:List Int):List Int×Bool:=
 let d:=bqc (bqe adj) to
 let v:=cqz d fr
 if v<0 then ([],false) else (wayL adj d (d v).toNat v,true)
end Go.Am
namespace Go.Am
open Go Go.Proofs
set_option linter.unusedVariables false
set_option linter.unusedSimpArgs false
variable {w0:World}
attribute [local irreducible] AWP aqo
attribute [local congr] aqp
theorem far_ret {adj:List (List Int)} {l:List Int} (hg:Gr adj) (hl:Pts adj.length l):Ret Tryz.prog w0 152 [rows adj,ints l] (.sl (labI adj.length (bqc adj l)) adj.length):=
 (far_new hg hl).ret (cut_all (by rw [aq5];omega))
def fromL (adj:List (List Int)) (l:List Int):List Int:=if mayG adj&&ptsB l adj.length then levL adj l adj.length else []
theorem from_filter {adj:List (List Int)} {l:List Int} (hg:Gr adj) (hl:Pts adj.length l):(upto adj.length).filter (fun v=> !decide (bqc adj l v= -1))=levL adj l adj.length:=by
 have hp:=eqm hg hl adj.length
 refine cqu ((dqh _).filter _) hp.set.up fun x=> ?_
 rw [List.mem_filter,aqq]
 simp only [Bool.not_eq_true',decide_eq_false_iff_not,nqr hg hl,Classical.not_not]
 exact ⟨fun h=>h.2,fun h=>⟨hp.lt x h,h⟩⟩
theorem from_ret {adj:List (List Int)} {l:List Int} (ha:aqz adj) (hin:∀ p∈adj,aqz p) (hl:aqz l):Ret Tryz.prog w0 117 [rows adj,ints l] (ints (fromL adj l)):=by
 intro H
 refine aqf Tryz.func117 rfl Tryz.ntmps117 (ts:=[4]) rfl (by simp) (by kernel_rfl) ?_ |>cq4
 cases hm:mayG adj with
 | false=>
  repeat'(with_reducible first|(refine aqd (hK _ _ ?_);clear hK K)|refine vr [] fun K hK=>?_|((first|refine aqa fun K' hK'=>?_|refine aqb fun K' B hK' hB=>?_|(apply aqk;refine aqe rfl fun K' hK'=>?_));simp[rows,ints,hm];repeat'(first|((first|refine hK' ?_|refine hB ?_);clear hK' hB K' B)|(apply hK';clear hK' K')|refine Ret.use (cqa ha hin) ?_|fail))|apply aqc|refine sp ?_|fail)
  exact .inl ⟨by simp [fromL,hm],.refl _⟩
 | true=>
 cases hb:ptsB l adj.length with
 | false=>
  repeat'(with_reducible first|(refine aqd (hK _ _ ?_);clear hK K)|refine vr [] fun K hK=>?_|((first|refine aqa fun K' hK'=>?_|refine aqb fun K' B hK' hB=>?_|(apply aqk;refine aqe rfl fun K' hK'=>?_));simp[rows,ints,hm,hb];repeat'(first|((first|refine hK' ?_|refine hB ?_);clear hK' hB K' B)|(apply hK';clear hK' K')|refine Ret.use (cqa ha hin) ?_|refine Ret.use (cqs hl) ?_|fail))|apply aqc|refine sp ?_|fail)
  exact .inl ⟨by simp [fromL,hm,hb],.refl _⟩
 | true=>
 have hG:=gr_iff.1 hm
 have hp:=fqn.1 hb
 have hlen:=hG.len
 have hfin:=from_filter hG hp
 have hff:fromL adj l=levL adj l adj.length:=by simp [fromL,hm,hb]
 repeat'(with_reducible first|(refine aqd (hK _ _ ?_);clear hK K)|refine vr [5] fun K hK=>?_|((first|refine aqa fun K' hK'=>?_|refine aqb fun K' B hK' hB=>?_|(apply aqk;refine aqe rfl fun K' hK'=>?_));simp[rows,ints,hm,hb];repeat'(first|((first|refine hK' ?_|refine hB ?_);clear hK' hB K' B)|(apply hK';clear hK' K')|refine Ret.use (cqa ha hin) ?_|refine Ret.use (cqs hl) ?_|refine Ret.use (far_ret hG hp) ?_|intro hg|fail))|refine sp ?_|fail)
 rename_i r
 have hr:H r=none:=hg
 clear hg
 generalize hd:bqc adj l=d at *
 refine aqi (fun env h=>∃ i:Nat,i<=adj.length/\env 22=I i/\env 21=I adj.length/\env 20= .sl (labI adj.length d) adj.length/\
   env 5= .ref r 0 ((upto i).filter fun v=> !decide (d v= -1)).length ((upto i).filter fun v=> !decide (d v= -1)).length/\
   h=upd H r (some (.arr 1 3 (((upto i).filter fun v=> !decide (d v= -1)).map I) ((upto i).filter fun v=> !decide (d v= -1)).length))) (fun env _=>adj.length-natA (env 22)) ?_ ?_
 ·exact ⟨0,by omega,by simp,by simp,by simp,by simp [bq4],by simp [bq4]⟩
 rintro env h ⟨i,hi,h22,h21,h20,h5,rfl⟩
 have hnat:natA (env 22)=i:=by simp [h22]
 rw [hnat];clear hnat
 by_cases hlt:i<adj.length
 ·have hlab:=aq5 adj.length d
  have hat:∀ h:i<(labI adj.length d).length,(labI adj.length d)[i]'h=I (d i):=fun h=>by
   have:=fqz (n:=adj.length) (f:=d) (x:=(i:Int)) (by omega) (by simpa using h)
   simpa using this
  have hfs:(upto (i+1)).filter (fun v=> !decide (d v= -1))=(upto i).filter (fun v=> !decide (d v= -1))++if d i= -1 then [] else [(i:Int)]:=by
   rw [dqw,List.filter_append,List.filter_cons]
   by_cases h:d i= -1<;>simp [h]
  have hle:=List.length_filter_le (fun v=> !decide (d v= -1)) (upto i)
  rw [aqv] at hle
  generalize (upto i).filter (fun v=> !decide (d v= -1))=o at *
  by_cases hdi:d i= -1
  ·rw [if_pos hdi,List.append_nil] at hfs
   repeat'(with_reducible first|(refine aqd (hK _ _ ?_);clear hK K)|refine vr [] fun K hK=>?_|((first|refine aqa fun K' hK'=>?_|refine aqb fun K' B hK' hB=>?_);simp[h22,h21,h20,h5,hlt,hlab,hat,hdi];repeat'(first|((first|refine hK' ?_|refine hB ?_);clear hK' hB K' B)|(apply hK';clear hK' K')|refine And.intro ?_ ?_|(clear hK' K';omega)))|refine sp ?_|fail)
   exact ⟨⟨i+1,by omega,by simp,by simp [h21],by simp [h20],by rw [hfs];simp [h5],by rw [hfs]⟩,by simp;omega⟩
  ·rw [if_neg hdi] at hfs
   repeat'(with_reducible first|(refine aqd (hK _ _ ?_);clear hK K)|refine vr [] fun K hK=>?_|((first|refine aqa fun K' hK'=>?_|refine aqb fun K' B hK' hB=>?_);simp[h22,h21,h20,h5,hlt,hlab,hat,hdi];repeat'(first|((first|refine hK' ?_|refine hB ?_);clear hK' hB K' B)|(apply hK';clear hK' K')|refine And.intro ?_ ?_|(clear hK' K';omega)))|refine sp ?_|fail)
   exact ⟨⟨i+1,by omega,by simp,by simp [h21],by simp [h20],by rw [hfs];simp,by rw [hfs];simp⟩,by simp;omega⟩
 ·have:i=adj.length:=by omega
  subst this
  rw [hfin] at h5 ⊢
  repeat'(with_reducible first|(refine aqd (hK _ _ ?_);clear hK K)|refine vr [] fun K hK=>?_|((first|refine aqa fun K' hK'=>?_|refine aqb fun K' B hK' hB=>?_);simp[h22,h21,h5];repeat'(first|((first|refine hK' ?_|refine hB ?_);clear hK' hB K' B)|(apply hK';clear hK' K')|fail))|apply aqc|refine sp ?_|fail)
  refine frz hr (by simp) rfl ?_
  rw [bqw,hff]
def gqu (adj:List (List Int)) (fr to:List Int):List Int×Bool:=if mayG adj&&(ptsB fr adj.length&&ptsB to adj.length) then jqj adj fr to else ([],false)
theorem jqn (adj:List (List Int)) (d:Int->Int) (k:Nat) (v:Int):wayL adj d k v=v::(wayL adj d k v).drop 1:=by
 cases k<;>simp [wayL]
theorem lqd (adj:List (List Int)) (d:Int->Int) (k:Nat) (v:Int):(wayL adj d k v).length=k+1:=by
 induction k generalizing v with
 | zero=>rfl
 | succ k ih=>simp [wayL,ih]
theorem lqx {adj:List (List Int)} {to:List Int} (hG:Gr adj) (ht:Pts adj.length to) {v:Int} {k:Nat} (hv:0<=v/\v<adj.length) (hd:bqc (bqe adj) to v=k+1):
  cqz (bqc (bqe adj) to) (out adj v)=fqw (bqc (bqe adj) to) (out adj v) k/\fqw (bqc (bqe adj) to) (out adj v) k∈out adj v/\bqc (bqe adj) to (fqw (bqc (bqe adj) to) (out adj v) k)=k:=by
 obtain ⟨u,hu,hdu⟩:=dt_next hG ht hv (by omega)
 have hex:∃ u∈out adj v,bqc (bqe adj) to u=(k:Int):=⟨u,hu,by omega⟩
 refine ⟨next_least (by omega) (fun x hx=>((dqz hG v).lt x hx).1) hex (fun u hu h0=> ?_),nextL_spec hex⟩
 have:=dt_arc hG ht hv hu h0
 omega
theorem dt_bound {adj:List (List Int)} {to:List Int} (hG:Gr adj) (ht:Pts adj.length to) (v:Int): -1<=bqc (bqe adj) to v/\bqc (bqe adj) to v<=adj.length:=by
 rcases cq9 (eqf hG) (dqo ht) (v:=v) with ⟨d,h1,h2,_⟩ | ⟨h1,_⟩
 ·rw [bqh] at h1;omega
 ·omega
theorem rows_make {e:TypeId} {H:Heap} {O n:Nat} (hO:H O=none):Rows e H (upd H O (some (.arr 1 e (List.replicate n (.sc (.slice none 0 0))) n))) O (List.replicate n []) (List.replicate n (.sc (.slice none 0 0))):=by
 refine ⟨by simp,by simp [aqj],fun i p h=> ?_,fun i j r a b a' b' h=> ?_,aqh hO,hO⟩
 ·rw [List.getElem?_replicate] at h
  split at h
  ·cases h
   rename_i hi
   exact .inl ⟨rfl,by rw [List.getElem?_replicate,if_pos hi]⟩
  ·cases h
 ·rw [List.getElem?_replicate] at h
  split at h<;>cases h
def fql (adj:List (List Int)) (i:Nat) (ws:List Int):List (List Int):=(upto adj.length).map fun u=>((upto i).filter fun v=>decide (u∈out adj v))++if u∈ws then [(i:Int)] else []
theorem bq9 (adj:List (List Int)) (i:Nat) (ws:List Int):(fql adj i ws).length=adj.length:=by simp [fql]
theorem jq3 {adj:List (List Int)} {i:Nat} {ws:List Int} {u:Int} (h:0<=u/\u<adj.length):(fql adj i ws)[u.toNat]? =some (((upto i).filter fun v=>decide (u∈out adj v))++if u∈ws then [(i:Int)] else []):=by
 have hu:(upto adj.length)[u.toNat]? =some u:=by
  rw [List.getElem?_eq_getElem (by simp;omega),cqm];congr 1;omega
 simp only [fql,List.getElem?_map,hu,Option.map_some]
theorem turnM_zero (adj:List (List Int)):fql adj 0 []=List.replicate adj.length []:=by
 simp only [fql,bq4,List.filter_nil,List.not_mem_nil,if_false,List.append_nil,List.map_const',aqv]
theorem turnM_next (adj:List (List Int)) (i:Nat):fql adj i (out adj i)=fql adj (i+1) []:=by
 simp only [fql,dqw,List.filter_append,List.filter_cons,List.filter_nil,List.not_mem_nil,if_false,List.append_nil]
 apply List.map_congr_left
 intro u _
 by_cases h:u∈out adj i<;>simp [h]
theorem turnM_all (adj:List (List Int)):fql adj adj.length []=bqe adj:=by
 simp [fql,bqe]
theorem turnM_push {adj:List (List Int)} {i:Nat} {ws:List Int} {u:Int} (h:0<=u/\u<adj.length) (hu:u∉ws):
  (fql adj i ws).set u.toNat (((upto i).filter fun v=>decide (u∈out adj v))++[(i:Int)])=fql adj i (ws++[u]):=by
 refine List.ext_getElem? fun j=> ?_
 rw [List.getElem?_set,bq9]
 by_cases hj:j<adj.length
 ·have e1:=jq3 (adj:=adj) (i:=i) (ws:=ws) (u:=(j:Int)) (by omega)
  have e2:=jq3 (adj:=adj) (i:=i) (ws:=ws++[u]) (u:=(j:Int)) (by omega)
  rw [Int.toNat_natCast] at e1 e2
  rw [e1,e2]
  by_cases e:u.toNat=j
  ·have e':(j:Int)=u:=by omega
   rw [if_pos e,if_pos (by omega),e']
   simp
  ·have e':¬(j:Int)=u:=by omega
   rw [if_neg e]
   simp only [List.mem_append,List.mem_singleton,e',or_false]
 ·have e1:(fql adj i ws)[j]? =none:=List.getElem?_eq_none (by rw [bq9];omega)
  have e2:(fql adj i (ws++[u]))[j]? =none:=List.getElem?_eq_none (by rw [bq9];omega)
  rw [e1,e2]
  by_cases e:u.toNat=j
  ·rw [if_pos e,if_neg (by omega)]
  ·rw [if_neg e]
theorem turned_ret {adj:List (List Int)} (hG:Gr adj):Ret Tryz.prog w0 153 [rows adj] (rows (bqe adj)):=by
 intro H
 have hlen:=hG.len
 refine aqf Tryz.func153 rfl Tryz.ntmps153 (ts:=[2]) rfl (by simp) (by kernel_rfl) ?_
 repeat'(with_reducible first|(refine aqd (hK _ _ ?_);clear hK K)|refine vr [] fun K hK=>?_|(refine aqa fun K' hK'=>?_;simp[rows];repeat'(first|(apply hK';clear hK' K')|refine And.intro ?_ ?_|intro hg|(clear hK' K';omega)))|refine sp ?_|fail)
 all_goals try omega
 rename_i O
 have hO:H O=none:=hg
 clear hg
 refine aqi (fun env h=>∃ (i:Nat) (cells:List AV),i<=adj.length/\env 13=I i/\env 12=I adj.length/\env 11=rows adj/\env 3= .ref O 0 adj.length adj.length/\Rows 26 H h O (fql adj i []) cells) (fun env _=>adj.length-natA (env 13)) ?_ ?_
 ·have hR:=rows_make (e:=26) (n:=adj.length) hO
  rw [<-turnM_zero] at hR
  refine ⟨0,List.replicate adj.length (.sc (.slice none 0 0)),by omega,by simp,by simp,by simp [rows],by simp,?_⟩
  simpa using hR
 rintro env h ⟨i,cells,hi,h13,h12,h11,h3,R⟩
 have hnat:natA (env 13)=i:=by simp [h13]
 rw [hnat];clear hnat
 by_cases hlt:i<adj.length
 ·have hout:∀ h:i<adj.length,adj[i]'h=out adj i:=fun h=>by simp [out,h]
  have hop:=dqz hG i
  have hol:=hop.length
  have hnd:=hop.set.nodup
  have hnx:=turnM_next adj i
  generalize hws:out adj (i:Int)=ws at *
  repeat'(with_reducible first|(refine aqd (hK _ _ ?_);clear hK K)|refine vr [] fun K hK=>?_|((first|refine aqa fun K' hK'=>?_|refine aqb fun K' B hK' hB=>?_);simp[h13,h12,h11,h3,rows,ints,hlt,hout];repeat'(first|((first|refine hK' ?_|refine hB ?_);clear hK' hB K' B)|(apply hK';clear hK' K')|fail))|refine sp ?_|fail)
  refine aqi (fun env h=>∃ (j:Nat) (cells:List AV),j<=ws.length/\env 20=I j/\env 19=I ws.length/\env 18=ints ws/\env 4=I i/\env 13=I i/\env 12=I adj.length/\env 11=rows adj/\env 3= .ref O 0 adj.length adj.length/\Rows 26 H h O (fql adj i (ws.take j)) cells) (fun env _=>ws.length-natA (env 20)) ?_ ?_
  ·exact ⟨0,cells,by omega,by simp,by simp,by simp [ints],by simp,by simp [h13],by simp [h12],by simp [h11],by simp [h3],by simpa using R⟩
  clear h13 h12 h11 h3 R cells
  rintro env h ⟨j,cells,hj,h20,h19,h18,h4,h13,h12,h11,h3,R⟩
  have hnat:natA (env 20)=j:=by simp [h20]
  rw [hnat];clear hnat
  by_cases hjl:j<ws.length
  ·have hu:=hop.lt ws[j] (List.getElem_mem _)
   have hun:ws[j].toNat<adj.length:=by omega
   have hno:ws[j]∉ws.take j:=by
    intro hm
    rw [List.mem_take_iff_getElem] at hm
    obtain ⟨k,hk,e⟩:=hm
    have:=List.getElem_inj hnd (h₀:=by omega) (h₁:=hjl) |>.1 e
    omega
   have hget:=jq3 (i:=i) (ws:=ws.take j) hu
   rw [if_neg hno,List.append_nil] at hget
   have hpush:=turnM_push (i:=i) hu hno
   have hts:ws.take (j+1)=ws.take j++[ws[j]]:=List.take_succ_eq_append_getElem hjl
   rw [<-hts] at hpush
   have hple:=List.length_filter_le (fun v=>decide (ws[j]∈out adj v)) (upto i)
   rw [aqv] at hple
   have hcl:=R.len
   rw [bq9] at hcl
   have hO':=R.out
   rw [bq9] at hO'
   generalize hpp:(upto i).filter (fun v=>decide (ws[j]∈out adj v))=p at *
   rcases R.row _ _ hget with ⟨hp0,hc0⟩ | ⟨q,hcq,hq,hHq,hqO⟩
   ·-- the first one
    subst hp0
    have hc0':∀ h:ws[j].toNat<cells.length,cells[ws[j].toNat]'h= .sc (.slice none 0 0):=fun h=>(List.getElem?_eq_some_iff.1 hc0).2
    repeat'(with_reducible first|(refine aqd (hK _ _ ?_);clear hK K)|refine vr [] fun K hK=>?_|((first|refine aqa fun K' hK'=>?_|refine aqb fun K' B hK' hB=>?_);simp[h20,h19,h18,h4,h13,h12,h11,h3,hjl,hO',hun,hu.1,hc0',hcl];repeat'(first|((first|refine hK' ?_|refine hB ?_);clear hK' hB K' B)|(apply hK';clear hK' K')|refine And.intro ?_ ?_|intro hg|(clear hK' K';omega)))|refine sp ?_|fail)
    all_goals try omega
    rename_i q
    have hOq:O≠q:=by rintro rfl;rw [hO'] at hg;cases hg
    have R1:=R.push (v:=(i:Int)) hget (.inl ⟨rfl,hg⟩)
    rw [bq9,hpush] at R1
    simp [hOq]
    with_reducible refine hK' _ _ ?_
    clear hK' K'
    repeat'(with_reducible first|(refine aqd (hK _ _ ?_);clear hK K)|refine vr [] fun K hK=>?_|(refine aqa fun K' hK'=>?_;simp[h20,h19,h18,h4,h13,h12,h11,h3,hjl,hO',hun,hu.1,hcl,hOq];repeat'(first|(apply hK';clear hK' K')|refine And.intro ?_ ?_|(clear hK' K';omega)))|refine sp ?_|fail)
    all_goals try omega
    exact ⟨⟨j+1,_,by omega,by simp,by simp [h19],by simp [h18],by simp [h4],by simp [h13],by simp [h12],by simp [h11],by simp [h3],by simpa [hOq] using R1⟩,by simp;omega⟩
   ·have hOq:O≠q:=fun e=>hqO e.symm
    have R1:=R.push (v:=(i:Int)) hget (.inr hcq)
    rw [bq9,hpush] at R1
    have hcq':∀ h:ws[j].toNat<cells.length,cells[ws[j].toNat]'h= .ref q 0 p.length p.length:=fun h=>(List.getElem?_eq_some_iff.1 hcq).2
    repeat'(with_reducible first|(refine aqd (hK _ _ ?_);clear hK K)|refine vr [] fun K hK=>?_|((first|refine aqa fun K' hK'=>?_|refine aqb fun K' B hK' hB=>?_);simp[h20,h19,h18,h4,h13,h12,h11,h3,hjl,hO',hun,hu.1,hcq',hcl,hq,hqO,hOq];repeat'(first|((first|refine hK' ?_|refine hB ?_);clear hK' hB K' B)|(apply hK';clear hK' K')|refine And.intro ?_ ?_|(clear hK' K';omega)))|refine sp ?_|fail)
    all_goals try omega
    exact ⟨⟨j+1,_,by omega,by simp,by simp [h19],by simp [h18],by simp [h4],by simp [h13],by simp [h12],by simp [h11],by simp [h3],by simpa [hOq] using R1⟩,by simp;omega⟩
  ·have:j=ws.length:=by omega
   subst this
   rw [List.take_length,hnx] at R
   repeat'(with_reducible first|(refine aqd (hK _ _ ?_);clear hK K)|refine vr [] fun K hK=>?_|((first|refine aqa fun K' hK'=>?_|refine aqb fun K' B hK' hB=>?_);simp[h20,h19,h18,h13];repeat'(first|((first|refine hK' ?_|refine hB ?_);clear hK' hB K' B)|(apply hK';clear hK' K')|refine And.intro ?_ ?_|(clear hK' K';omega)))|refine sp ?_|fail)
   all_goals try omega
   exact ⟨⟨i+1,cells,by omega,by simp [h13],by simp [h12],by simp [h11],by simp [h3],R⟩,by simp [h13];omega⟩
 ·have:i=adj.length:=by omega
  subst this
  rw [turnM_all] at R
  have htl:=bqh adj
  rw [<-htl] at h3
  refine awp_rows 3 R h3 fun env' he he2=> ?_
  have g13:env' 13=I adj.length:=by rw [he2 _ (by decide),h13]
  have g12:env' 12=I adj.length:=by rw [he2 _ (by decide),h12]
  repeat'(with_reducible first|(refine aqd (hK _ _ ?_);clear hK K)|refine vr [] fun K hK=>?_|((first|refine aqa fun K' hK'=>?_|refine aqb fun K' B hK' hB=>?_);simp[g13,g12,he];repeat'(first|((first|refine hK' ?_|refine hB ?_);clear hK' hB K' B)|(apply hK';clear hK' K')|fail))|apply aqc|refine sp ?_|fail)
  simp
abbrev PredI (w0:World) (f:FuncId) (caps:List AV) (l:List Int) (p:Int->Bool) (H:Heap):Prop:=∀ x∈l,bqp Tryz.prog w0 f (I x::caps) (B (p x)) H
theorem jqb {l:List Int} {f:FuncId} {caps:List AV} {p:Int->Bool} {H:Heap} (hl:aqz l) (hp:PredI w0 f caps l p H):
  bqp Tryz.prog w0 131 [ints l,.clo f [] caps] (I (idxI p l)) H:=by
 refine .of ?_
 refine aqf Tryz.func131 rfl Tryz.ntmps131 (ts:=[4]) rfl (by simp) (by kernel_rfl) ?_
 repeat'(with_reducible first|(refine aqd (hK _ _ ?_);clear hK K)|refine vr [] fun K hK=>?_|(refine aqa fun K' hK'=>?_;simp[ints];repeat'(first|(apply hK';clear hK' K')|fail))|refine sp ?_|fail)
 refine aqi (fun env h=>∃ k:Nat,k<=l.length/\env 8=I k/\env 7=I l.length/\env 0=ints l/\env 1= .clo f [] caps/\(∀ x∈l.take k,p x=false)/\h=H) (fun env _=>l.length-natA (env 8)) ?_ ?_
 ·exact ⟨0,by omega,by simp,by simp,by simp [ints],by simp,by simp,rfl⟩
 rintro env h ⟨k,hk,h8,h7,h0,h1,ht,rfl⟩
 have hnat:natA (env 8)=k:=by simp [h8]
 rw [hnat];clear hnat
 by_cases hlt:k<l.length
 ·have hpk:=hp l[k] (List.getElem_mem _)
  cases hb:p l[k] with
  | true=>
   have:=kqp hlt ht hb
   repeat'(first|(with_reducible (refine aqd (hK _ _ ?_);clear hK K))|(with_reducible refine vr [] fun K hK=>?_)|((with_reducible first|refine aqa fun K' hK'=>?_|refine aqb fun K' B hK' hB=>?_);simp[h8,h7,h0,h1,ints,hlt];repeat'(first|(with_reducible first|((first|refine hK' ?_|refine hB ?_);clear hK' hB K' B)|(apply hK';clear hK' K'))|((with_reducible refine bqp.use hpk ?_;simp only [hb]);try simp[h8,h7,h0,h1,ints,hlt])|fail))|(with_reducible first|apply aqc|refine sp ?_)|fail)
   simp [this]
  | false=>
   repeat'(first|(with_reducible (refine aqd (hK _ _ ?_);clear hK K))|(with_reducible refine vr [] fun K hK=>?_)|((with_reducible first|refine aqa fun K' hK'=>?_|refine aqb fun K' B hK' hB=>?_);simp[h8,h7,h0,h1,ints,hlt];repeat'(first|(with_reducible first|((first|refine hK' ?_|refine hB ?_);clear hK' hB K' B)|(apply hK';clear hK' K'))|((with_reducible refine bqp.use hpk ?_;simp only [hb]);try simp[h8,h7,h0,h1,ints,hlt])|(with_reducible refine And.intro ?_ ?_)|(clear hK' K';omega)))|(with_reducible refine sp ?_)|fail)
   refine ⟨⟨k+1,by omega,by simp,by simp [h7],by simp [h0],by simp [h1],fun x hx=> ?_,rfl⟩,by simp;omega⟩
   rw [List.take_succ_eq_append_getElem hlt,List.mem_append,List.mem_singleton] at hx
   rcases hx with hx | rfl
   ·exact ht x hx
   ·exact hb
 ·have:k=l.length:=by omega
  subst this
  rw [List.take_length] at ht
  have:=kqq ht
  repeat'(with_reducible first|(refine aqd (hK _ _ ?_);clear hK K)|refine vr [] fun K hK=>?_|((first|refine aqa fun K' hK'=>?_|refine aqb fun K' B hK' hB=>?_);simp[h8,h7,h0,h1,ints];repeat'(first|((first|refine hK' ?_|refine hB ?_);clear hK' hB K' B)|(apply hK';clear hK' K')|fail))|apply aqc|refine sp ?_|fail)
  simp [this]
theorem path1_at {n:Nat} {d:Int->Int} {u v:Int} {H:Heap} {r s:Nat} (hr:H r=some (.box [.sl (labI n d) n])) (hs:H s=some (.box [I v])) (hu:0<=u/\u<n) (hv:0<=v/\v<n) (hd: -1<=d v/\d v<=1000000):
  bqp Tryz.prog w0 154 [I u,.ptr r 0 0,.ptr s 0 0] (B (decide (d u=d v-1))) H:=by
 refine .of ?_
 have hlab:=aq5 n d
 have h1:∀ h:u.toNat<(labI n d).length,(labI n d)[u.toNat]'h=I (d u):=fun h=>fqz hu.1 h
 have h2:∀ h:v.toNat<(labI n d).length,(labI n d)[v.toNat]'h=I (d v):=fun h=>fqz hv.1 h
 have h3:u.toNat<n:=by omega
 have h4:v.toNat<n:=by omega
 refine aqf Tryz.func154 rfl Tryz.ntmps154 (ts:=[4]) rfl (by simp) (by kernel_rfl) ?_
 repeat'(with_reducible first|(refine sp (hK _ _ ?_);clear hK K)|refine vr [] fun K hK=>?_|(refine vd [] [] mixed fun K hK=>?_)|((first|refine aqa fun K' hK'=>?_|refine aqn fun K' hK'=>?_);simp[hr,hs,hlab,h1,h2,h3,h4,hu.1,hv.1];repeat'(first|(apply hK';clear hK' K')|refine And.intro ?_ ?_|(clear hK' K';omega)))|apply aqc|refine sp ?_|fail)
 all_goals first | omega | simp
theorem idx_next {d:Int->Int} {l:List Int} {k:Int} (h:∃ u∈l,d u=k):∃ (i:Nat) (hi:i<l.length),idxI (fun u=>decide (d u=k)) l=i/\l[i]=fqw d l k:=by
 unfold idxI fqw
 cases hf:l.findIdx? fun u=>decide (d u=k) with
 | none=>
  rw [List.findIdx?_eq_none_iff] at hf
  obtain ⟨u,hu,e⟩:=h
  have:=hf u hu
  simp [e] at this
 | some i=>
  have hf':=hf
  rw [List.findIdx?_eq_some_iff_getElem] at hf'
  obtain ⟨hi,hp,hb⟩:=hf'
  refine ⟨i,hi,rfl,?_⟩
  have:l.find? (fun u=>decide (d u=k))=some l[i]:=by
   rw [List.find?_eq_some_iff_getElem]
   exact ⟨hp,i,hi,rfl,fun j hj=>by simpa using hb j hj⟩
  rw [this];rfl
def ph (H:Heap) (b s r:Nat) (left:AV) (v:Int) (o:List Int):Heap:=upd (upd (upd H b (some (.box [left]))) r (some (.arr 1 3 (o.map I) o.length))) s (some (.box [I v]))
section
variable {H:Heap} {b s r:Nat} {left:AV} {v:Int} {o:List Int}
theorem ph_b (h1:b≠r) (h2:b≠s):ph H b s r left v o b=some (.box [left]):=by simp [ph,h1,h2]
theorem ph_r (h:r≠s):ph H b s r left v o r=some (.arr 1 3 (o.map I) o.length):=by simp [ph,h]
theorem ph_s:ph H b s r left v o s=some (.box [I v]):=by simp [ph]
theorem ph_set {x:Int}:upd (ph H b s r left v o) s (some (.box [I x]))=ph H b s r left x o:=by simp [ph]
theorem ph_none {q:Nat} (h:ph H b s r left v o q=none):q≠b/\q≠s/\q≠r/\H q=none:=by
 unfold ph at h
 by_cases e1:q=s
 ·subst e1;simp [aqj] at h
 ·rw [aqm _ _ _ e1] at h
  by_cases e2:q=r
  ·subst e2;simp [aqj] at h
  ·rw [aqm _ _ _ e2] at h
   by_cases e3:q=b
   ·subst e3;simp [aqj] at h
   ·rw [aqm _ _ _ e3] at h;exact ⟨e3,e1,e2,h⟩
theorem ph_step {q:Nat} {o':List Int} {x:Int} (hs:H s=none) (hq:q≠b/\q≠s/\q≠r) (hbr:b≠r) (hbs:b≠s) (hrs:r≠s):
  Sub (ph H b q r left x o') (upd (upd (ph H b s r left v o) q (some (.box [I x]))) r (some (.arr 1 3 (o'.map I) o'.length))):=by
 intro z k hz
 unfold ph at hz ⊢
 by_cases e1:z=r
 ·subst e1
  rw [aqm _ _ _ (fun e=>hq.2.2 e.symm),aqj] at hz
  rw [aqj];exact hz
 ·rw [aqm _ _ _ e1]
  by_cases e2:z=q
  ·subst e2;rw [aqj] at hz ⊢;exact hz
  ·rw [aqm _ _ _ e2,aqm _ _ _ e1] at hz
   rw [aqm _ _ _ e2]
   have e3:z≠s:=by
    rintro rfl
    rw [aqm _ _ _ (fun e=>hbs e.symm),hs] at hz
    cases hz
   rw [aqm _ _ _ e3,aqm _ _ _ e1];exact hz
theorem ph_sub (hb:H b=none) (hr:H r=none) (hs:H s=none):Sub H (ph H b s r left v o):=(((Sub.refl H).upd hb _).upd hr _).upd hs _
end
theorem gqm {adj:List (List Int)} {fr to:List Int} (ha:aqz adj) (hin:∀ p∈adj,aqz p) (hf:aqz fr) (ht:aqz to):
  Ret Tryz.prog w0 116 [rows adj,ints fr,ints to] (.tup [ints (gqu adj fr to).1,B (gqu adj fr to).2]):=by
 intro H
 refine aqf Tryz.func116 rfl Tryz.ntmps116 (ts:=[6,7]) rfl (by simp) (by kernel_rfl) ?_
 cases hm:mayG adj with
 | false=>
  repeat'(with_reducible first|(refine sp (hK _ _ ?_);clear hK K)|refine vr [] fun K hK=>?_|((first|refine aqa fun K' hK'=>?_|refine aqb fun K' B hK' hB=>?_|(apply aqk;refine aqe rfl fun K' hK'=>?_));simp[rows,ints,hm];repeat'(first|((first|refine hK' ?_|refine hB ?_);clear hK' hB K' B)|(apply hK';clear hK' K')|refine Ret.use (cqa ha hin) ?_|fail))|apply aqc|refine sp ?_|fail)
  simp [gqu,hm]
 | true=>
 cases hb:ptsB fr adj.length with
 | false=>
  repeat'(with_reducible first|(refine sp (hK _ _ ?_);clear hK K)|refine vr [] fun K hK=>?_|((first|refine aqa fun K' hK'=>?_|refine aqb fun K' B hK' hB=>?_|(apply aqk;refine aqe rfl fun K' hK'=>?_));simp[rows,ints,hm,hb];repeat'(first|((first|refine hK' ?_|refine hB ?_);clear hK' hB K' B)|(apply hK';clear hK' K')|refine Ret.use (cqa ha hin) ?_|refine Ret.use (cqs hf) ?_|fail))|apply aqc|refine sp ?_|fail)
  simp [gqu,hm,hb]
 | true=>
 cases hc:ptsB to adj.length with
 | false=>
  repeat'(with_reducible first|(refine sp (hK _ _ ?_);clear hK K)|refine vr [] fun K hK=>?_|((first|refine aqa fun K' hK'=>?_|refine aqb fun K' B hK' hB=>?_|(apply aqk;refine aqe rfl fun K' hK'=>?_));simp[rows,ints,hm,hb,hc];repeat'(first|((first|refine hK' ?_|refine hB ?_);clear hK' hB K' B)|(apply hK';clear hK' K')|refine Ret.use (cqa ha hin) ?_|refine Ret.use (cqs hf) ?_|refine Ret.use (cqs ht) ?_|fail))|apply aqc|refine sp ?_|fail)
  simp [gqu,hm,hb,hc]
 | true=>
 have hG:=gr_iff.1 hm
 have hp:=fqn.1 hb
 have hpt:=fqn.1 hc
 have hlen:=hG.len
 have htl:=bqh adj
 have hfl:=hp.length
 have hpa:gqu adj fr to=jqj adj fr to:=by simp [gqu,hm,hb,hc]
 have hsp:=gq3 (d:=bqc (bqe adj) to) (fun x hx=>(hp.lt x hx).1)
 have hln:=fun {v k} hv hd=>lqx hG hpt (v:=v) (k:=k) hv hd
 have hnx:=fun {v} hv h0=>dt_next hG hpt (v:=v) hv h0
 have hbd:=dt_bound hG hpt
 simp only [jqj] at hpa
 have hfar:=far_ret (w0:=w0) (eqf hG) (dqo hpt)
 rw [htl] at hfar
 generalize hd:bqc (bqe adj) to=d at *
 repeat'(with_reducible first|(refine sp (hK _ _ ?_);clear hK K)|refine vr [] fun K hK=>?_|((first|refine aqa fun K' hK'=>?_|refine aqb fun K' B hK' hB=>?_|(apply aqk;refine aqe rfl fun K' hK'=>?_));simp[rows,ints,hm,hb,hc];repeat'(first|((first|refine hK' ?_|refine hB ?_);clear hK' hB K' B)|(apply hK';clear hK' K')|refine Ret.use (cqa ha hin) ?_|refine Ret.use (cqs hf) ?_|refine Ret.use (cqs ht) ?_|refine Ret.use (turned_ret hG) ?_|refine Ret.use hfar ?_|intro hg|fail))|refine sp ?_|fail)
 rename_i b
 have hb0:H b=none:=hg
 clear hg
 have hlab:=aq5 adj.length d
 have hat:∀ x:Int,0<=x->∀ h:x.toNat<(labI adj.length d).length,(labI adj.length d)[x.toNat]'h=I (d x):=fun x h0 h=>fqz h0 h
 have hmem:∀ k,k<=fr.length->cqz d (fr.take k)= -1\/cqz d (fr.take k)∈fr:=by
  intro k
  induction k with
  | zero=>intro _;exact .inl (by simp [cqz])
  | succ k ih=>
   intro hk
   rw [gq2 (by omega)]
   split
   ·exact .inr (List.getElem_mem _)
   ·exact ih (by omega)
 refine aqi (fun env h=>∃ k:Nat,k<=fr.length/\env 38=I k/\env 37=I fr.length/\env 36=ints fr/\env 9=I (cqz d (fr.take k))/\env 8= .ptr b 0 0/\env 0=rows adj/\h=upd H b (some (.box [.sl (labI adj.length d) adj.length]))) (fun env _=>fr.length-natA (env 38)) ?_ ?_
 ·exact ⟨0,by omega,by simp,by simp,by simp [ints],by simp [cqz],by simp,by simp [rows],by simp⟩
 rintro env h ⟨k,hk,h38,h37,h36,h9,h8,h0,rfl⟩
 have hnat:natA (env 38)=k:=by simp [h38]
 rw [hnat];clear hnat
 by_cases hlt:k<fr.length
 ·have hx:=hp.lt fr[k] (List.getElem_mem _)
  have hxn:fr[k].toNat<adj.length:=by omega
  have hax:=hat fr[k] hx.1
  have htk:=gq2 (d:=d) hlt
  have hmk:=hmem k hk
  have hbx:=hbd fr[k]
  generalize cqz d (fr.take k)=best at *
  by_cases hd0:d fr[k]= -1
  ·rw [if_neg (fun h=>by omega)] at htk
   repeat'(with_reducible first|(refine sp (hK _ _ ?_);clear hK K)|refine vr [] fun K hK=>?_|(refine vd [] [] mixed fun K hK=>?_)|((first|refine aqa fun K' hK'=>?_|refine aqb fun K' B hK' hB=>?_|refine aqn fun K' hK'=>?_|(apply bq8;refine aqt rfl fun K' hK'=>?_));simp[h38,h37,h36,h9,h8,h0,rows,ints,hlt,hlab,hxn,hx.1,hax,hd0];repeat'(first|((first|refine hK' ?_|refine hB ?_);clear hK' hB K' B)|(apply hK';clear hK' K')|refine And.intro ?_ ?_|(clear hK' K';omega)))|refine sp ?_|fail)
   exact ⟨⟨k+1,by omega,by simp,by simp [h37],by simp [h36],by rw [htk];simp [h9],by simp [h8],by simp [h0],rfl⟩,by simp;omega⟩
  ·by_cases hbe:best= -1
   ·rw [if_pos ⟨by omega,.inl (by omega)⟩] at htk
    repeat'(with_reducible first|(refine sp (hK _ _ ?_);clear hK K)|refine vr [] fun K hK=>?_|(refine vd [] [] mixed fun K hK=>?_)|((first|refine aqa fun K' hK'=>?_|refine aqb fun K' B hK' hB=>?_|refine aqn fun K' hK'=>?_|(apply bq8;refine aqt rfl fun K' hK'=>?_));simp[h38,h37,h36,h9,h8,h0,rows,ints,hlt,hlab,hxn,hx.1,hax,hd0,hbe];repeat'(first|((first|refine hK' ?_|refine hB ?_);clear hK' hB K' B)|(apply hK';clear hK' K')|refine And.intro ?_ ?_|(clear hK' K';omega)))|refine sp ?_|fail)
    exact ⟨⟨k+1,by omega,by simp,by simp [h37],by simp [h36],by rw [htk];simp,by simp [h8],by simp [h0],rfl⟩,by simp;omega⟩
   ·have hbl:=hp.lt best (hmk.resolve_left hbe)
    have hbn:best.toNat<adj.length:=by omega
    have hab:=hat best hbl.1
    by_cases hcc:d fr[k]<d best
    ·rw [if_pos ⟨by omega,.inr hcc⟩] at htk
     repeat'(with_reducible first|(refine sp (hK _ _ ?_);clear hK K)|refine vr [] fun K hK=>?_|(refine vd [] [] mixed fun K hK=>?_)|((first|refine aqa fun K' hK'=>?_|refine aqb fun K' B hK' hB=>?_|refine aqn fun K' hK'=>?_|(apply bq8;refine aqt rfl fun K' hK'=>?_));simp[h38,h37,h36,h9,h8,h0,rows,ints,hlt,hlab,hxn,hx.1,hax,hd0,hbe,hbl.1,hbn,hab,hcc];repeat'(first|((first|refine hK' ?_|refine hB ?_);clear hK' hB K' B)|(apply hK';clear hK' K')|refine And.intro ?_ ?_|(clear hK' K';omega)))|refine sp ?_|fail)
     exact ⟨⟨k+1,by omega,by simp,by simp [h37],by simp [h36],by rw [htk];simp,by simp [h8],by simp [h0],rfl⟩,by simp;omega⟩
    ·rw [if_neg (by rintro ⟨_,h | h⟩;(· omega);(· exact hcc h))] at htk
     repeat'(with_reducible first|(refine sp (hK _ _ ?_);clear hK K)|refine vr [] fun K hK=>?_|(refine vd [] [] mixed fun K hK=>?_)|((first|refine aqa fun K' hK'=>?_|refine aqb fun K' B hK' hB=>?_|refine aqn fun K' hK'=>?_|(apply bq8;refine aqt rfl fun K' hK'=>?_));simp[h38,h37,h36,h9,h8,h0,rows,ints,hlt,hlab,hxn,hx.1,hax,hd0,hbe,hbl.1,hbn,hab,hcc];repeat'(first|((first|refine hK' ?_|refine hB ?_);clear hK' hB K' B)|(apply hK';clear hK' K')|refine And.intro ?_ ?_|(clear hK' K';omega)))|refine sp ?_|fail)
     exact ⟨⟨k+1,by omega,by simp,by simp [h37],by simp [h36],by rw [htk];simp [h9],by simp [h8],by simp [h0],rfl⟩,by simp;omega⟩
 ·have:k=fr.length:=by omega
  subst this
  rw [List.take_length] at h9
  rcases hsp with ⟨hv,_⟩ | ⟨i,hi,hv,hd0,_,_⟩
  ·rw [hv] at hpa h9
   repeat'(with_reducible first|(refine sp (hK _ _ ?_);clear hK K)|refine vr [] fun K hK=>?_|((first|refine aqa fun K' hK'=>?_|refine aqb fun K' B hK' hB=>?_);simp[h38,h37,h36,h9,h8,h0,rows,ints];repeat'(first|((first|refine hK' ?_|refine hB ?_);clear hK' hB K' B)|(apply hK';clear hK' K')|fail))|apply aqc|refine sp ?_|fail)
   refine ⟨by simp [hpa],aqh hb0⟩
  ·have hvl:=hp.lt fr[i] (List.getElem_mem _)
   have hv0:¬fr[i]<0:=by omega
   have hv1:¬fr[i]= -1:=by omega
   rw [hv] at h9
   rw [hv,if_neg hv0] at hpa
   generalize fr[i]=v0 at *
   repeat'(with_reducible first|(refine sp (hK _ _ ?_);clear hK K)|refine vr [67] fun K hK=>?_|((first|refine aqa fun K' hK'=>?_|refine aqb fun K' B hK' hB=>?_);simp[h38,h37,h36,h9,h8,h0,rows,ints,hv1];repeat'(first|((first|refine hK' ?_|refine hB ?_);clear hK' hB K' B)|(apply hK';clear hK' K')|intro hg|fail))|refine sp ?_|fail)
   rename_i r hr0 s
   have hrb:r≠b:=by rintro rfl;simp at hr0
   have hr:H r=none:=by rw [if_neg hrb] at hr0;exact hr0
   have hsr:s≠r:=by rintro rfl;simp at hg
   have hsb:s≠b:=by rintro rfl;simp [hrb.symm] at hg
   have hs:H s=none:=by rw [if_neg hsr,if_neg hsb] at hg;exact hg
   clear hg hr0
   refine iqz (fun k env h=>∃ (v:Int) (o:List Int) (s:Nat),(0<=v/\v<adj.length)/\d v=k/\o++(wayL adj d k v).drop 1=wayL adj d (d v0).toNat v0/\env 13= .ptr s 0 0/\env 8= .ptr b 0 0/\env 0=rows adj/\env 12= .ref r 0 o.length o.length/\
     s≠r/\s≠b/\H s=none/\Sub (ph H b s r (.sl (labI adj.length d) adj.length) v o) h) ?_ ?_
   ·exact ⟨(d v0).toNat,v0,[v0],s,hvl,by omega,by rw [List.singleton_append,<-jqn],by simp,by simp [h8],by simp [h0],by simp,hsr,hsb,hs,by simp only [ph,List.map_cons,List.map_nil,List.length_singleton];exact .refl _⟩
   clear hs hsb hsr s h37 h36 h8 h0 h38 h9
   rintro k env h ⟨v,o,s,hvl',hdv,ho,h13,h8,h0,h12,hsr,hsb,hs,hsub⟩
   refine AWP.sub hsub ?_
   clear hsub
   have hol:o.length<=4097:=by
    have h1:=congrArg List.length ho
    rw [List.length_append,List.length_drop,lqd,lqd] at h1
    have:=hbd v0
    omega
   have hvn:v.toNat<adj.length:=by omega
   have hout:∀ h:v.toNat<adj.length,adj[v.toNat]'h=out adj v:=fun h=>(out_eq h).symm
   have hav:=hat v hvl'.1
   have hlook:=ph_b (H:=H) (left:= .sl (labI adj.length d) adj.length) (v:=v) (o:=o) hrb.symm hsb.symm
   have hlr:=ph_r (H:=H) (b:=b) (left:= .sl (labI adj.length d) adj.length) (v:=v) (o:=o) hsr.symm
   have hls:=ph_s (H:=H) (b:=b) (s:=s) (r:=r) (left:= .sl (labI adj.length d) adj.length) (v:=v) (o:=o)
   cases k with
   | zero=>
    rw [show (wayL adj d 0 v).drop 1=[] from rfl,List.append_nil] at ho
    have hd0':¬0<d v:=by omega
    refine eqx 12 h12 hlr ?_
    rw [bqw]
    repeat'(with_reducible first|(refine sp (hK _ _ ?_);clear hK K)|refine vr [] fun K hK=>?_|((first|refine aqa fun K' hK'=>?_|refine aqb fun K' B hK' hB=>?_);simp[h13,h8,h0,hlook,hls,hlab,hvn,hvl'.1,hav,hd0',hrb.symm,hsr];repeat'(first|((first|refine hK' ?_|refine hB ?_);clear hK' hB K' B)|(apply hK';clear hK' K')|refine And.intro ?_ ?_|(clear hK' K';omega)))|apply aqc|refine sp ?_|fail)
    exact ⟨by simp [hpa,ho],(ph_sub hb0 hr hs).upd hr _⟩
   | succ k=>
    obtain ⟨n1,n2,n3⟩:= @hln v k hvl' (by omega)
    have hnl:=(dqz hG v).lt _ n2
    have hw:wayL adj d (k+1) v=v::wayL adj d k (fqw d (out adj v) k):=rfl
    rw [hw,List.drop_one,List.tail_cons,jqn] at ho
    have hkey:d v-1=k:=by omega
    obtain ⟨j,hj,hidx,hjn⟩:=idx_next (d:=d) (l:=out adj v) (k:=(k:Int)) ⟨_,n2,n3⟩
    have hpo:=dqz hG v
    have hol':aqz (out adj v):=by have:=hpo.length;rw [aqz];omega
    have hd0':0<d v:=by omega
    generalize hws:out adj v=ws at *
    generalize hnv:fqw d ws k=nv at *
    have hix:bqp Tryz.prog w0 131 [ints ws,.clo 154 [] [.ptr b 0 0,.ptr s 0 0]] (I j) (ph H b s r (.sl (labI adj.length d) adj.length) v o):=by
     rw [<-hidx]
     refine jqb hol' fun x hx=> ?_
     have:=path1_at (w0:=w0) hlook hls (hpo.lt x hx) hvl' (by have:=hbd v;omega)
     rwa [hkey] at this
    have hjn':∀ h,ws[j]'h=nv:=fun _=>hjn
    repeat'(first|(with_reducible (refine sp (hK _ _ ?_);clear hK K))|((fail_if_success(with_reducible refine aql 16 ?_));(fail_if_success(with_reducible refine(?_:AWP _ _ _ (Code.region 16 _ _) _ _ _)));with_reducible refine vr [] fun K hK=>?_)|((with_reducible first|refine aqa fun K' hK'=>?_|refine aqb fun K' B hK' hB=>?_);simp[h13,h8,h0,h12,rows,ints,hlook,hlr,hls,hlab,hvn,hvl'.1,hav,hd0',hout,hj,hjn',ph_set,ph_s];repeat'(first|(with_reducible first|((first|refine hK' ?_|refine hB ?_);clear hK' hB K' B)|(apply hK';clear hK' K'))|((with_reducible refine bqp.use hix ?_;try simp);try simp[h13,h8,h0,h12,rows,ints,hlook,hlr,hls,hlab,hvn,hvl'.1,hav,hd0',hout,hj,hjn',ph_set,ph_s])|(with_reducible first|refine And.intro ?_ ?_|intro hg)|(clear hK' K';omega)))|((fail_if_success(with_reducible refine aql 16 ?_));with_reducible refine sp ?_)|fail)
    rename_i q
    obtain ⟨q1,q2,q3,q4⟩:=ph_none hg
    have hrq:r≠q:=fun e=>q3 e.symm
    have hlr2:=ph_r (H:=H) (b:=b) (left:= .sl (labI adj.length d) adj.length) (v:=nv) (o:=o) hsr.symm
    repeat'(with_reducible first|(refine sp (hK _ _ ?_);clear hK K)|refine vr [] fun K hK=>?_|(refine aqa fun K' hK'=>?_;simp[h12,hlr2,hrq];repeat'(first|(apply hK';clear hK' K')|refine And.intro ?_ ?_|(clear hK' K';omega)))|refine sp ?_|fail)
    refine ⟨k,by omega,nv,o++[nv],q,hnl,n3,by rw [<-ho];simp,by simp,by simp [h8],by simp [h0],by simp,q3,q1,q4,?_⟩
    have:=ph_step (H:=H) (b:=b) (s:=s) (r:=r) (left:= .sl (labI adj.length d) adj.length) (v:=nv) (o:=o) (q:=q) (o':=o++[nv]) (x:=nv) hs ⟨q1,q2,q3⟩ hrb.symm hsb.symm hsr.symm
    simpa using this
abbrev PredR (w0:World) (f:FuncId) (p:Int->Bool):Prop:=∀ x:Int,Ret Tryz.prog w0 f [I x] (B (p x))
theorem kqn {l:List Int} {f:FuncId} {p:Int->Bool} {H:Heap} {r:Nat} (hl:aqz l) (hr:H r=some (.arr 1 3 (l.map I) l.length)) (hp:PredR w0 f p):
  bqp Tryz.prog w0 131 [.ref r 0 l.length l.length,.clo f [] []] (I (idxI p l)) H:=by
 refine .of ?_
 refine aqf Tryz.func131 rfl Tryz.ntmps131 (ts:=[4]) rfl (by simp) (by kernel_rfl) ?_
 repeat'(with_reducible first|(refine aqd (hK _ _ ?_);clear hK K)|refine vr [] fun K hK=>?_|(refine aqa fun K' hK'=>?_;simp;repeat'(first|(apply hK';clear hK' K')|fail))|refine sp ?_|fail)
 refine aqi (fun env h=>∃ k:Nat,k<=l.length/\env 8=I k/\env 7=I l.length/\env 0= .ref r 0 l.length l.length/\env 1= .clo f [] []/\(∀ x∈l.take k,p x=false)/\h=H) (fun env _=>l.length-natA (env 8)) ?_ ?_
 ·exact ⟨0,by omega,by simp,by simp,by simp,by simp,by simp,rfl⟩
 rintro env h ⟨k,hk,h8,h7,h0,h1,ht,rfl⟩
 have hnat:natA (env 8)=k:=by simp [h8]
 rw [hnat];clear hnat
 by_cases hlt:k<l.length
 ·have hpk:=hp l[k]
  cases hb:p l[k] with
  | true=>
   have:=kqp hlt ht hb
   rw [hb] at hpk
   repeat'(with_reducible first|(refine aqd (hK _ _ ?_);clear hK K)|refine vr [] fun K hK=>?_|((first|refine aqa fun K' hK'=>?_|refine aqb fun K' B hK' hB=>?_);simp[h8,h7,h0,h1,hlt,hr];repeat'(first|((first|refine hK' ?_|refine hB ?_);clear hK' hB K' B)|(apply hK';clear hK' K')|refine Ret.use hpk ?_|fail))|apply aqc|refine sp ?_|fail)
   simp [this]
  | false=>
   rw [hb] at hpk
   repeat'(with_reducible first|(refine aqd (hK _ _ ?_);clear hK K)|refine vr [] fun K hK=>?_|((first|refine aqa fun K' hK'=>?_|refine aqb fun K' B hK' hB=>?_);simp[h8,h7,h0,h1,hlt,hr];repeat'(first|((first|refine hK' ?_|refine hB ?_);clear hK' hB K' B)|(apply hK';clear hK' K')|refine Ret.use hpk ?_|refine And.intro ?_ ?_|(clear hK' K';omega)))|refine sp ?_|fail)
   refine ⟨⟨k+1,by omega,by simp,by simp [h7],by simp [h0],by simp [h1],fun x hx=> ?_,rfl⟩,by simp;omega⟩
   rw [List.take_succ_eq_append_getElem hlt,List.mem_append,List.mem_singleton] at hx
   rcases hx with hx | rfl
   ·exact ht x hx
   ·exact hb
 ·have:k=l.length:=by omega
  subst this
  rw [List.take_length] at ht
  have:=kqq ht
  repeat'(with_reducible first|(refine aqd (hK _ _ ?_);clear hK K)|refine vr [] fun K hK=>?_|((first|refine aqa fun K' hK'=>?_|refine aqb fun K' B hK' hB=>?_);simp[h8,h7,h0,h1];repeat'(first|((first|refine hK' ?_|refine hB ?_);clear hK' hB K' B)|(apply hK';clear hK' K')|fail))|apply aqc|refine sp ?_|fail)
  simp [this]
theorem lq2 {α:Type} (p:α->Bool) (l:List α):(idxI p l= -1/\∀ x∈l,p x=false)\/∃ (k:Nat) (h:k<l.length),idxI p l=k/\p l[k]=true/\∀ x∈l.take k,p x=false:=by
 unfold idxI
 cases h:l.findIdx? p with
 | none=>
  rw [List.findIdx?_eq_none_iff] at h
  exact .inl ⟨rfl,fun x hx=>by simpa using h x hx⟩
 | some k=>
  rw [List.findIdx?_eq_some_iff_getElem] at h
  obtain ⟨hk,hp,hb⟩:=h
  refine .inr ⟨k,hk,rfl,hp,fun x hx=> ?_⟩
  rw [List.mem_take_iff_getElem] at hx
  obtain ⟨j,hj,rfl⟩:=hx
  simpa using hb j (by omega)
theorem setL_ints (vs:List Int):∀ (c:List Int) (o:Nat),∃ c':List Int,setL (c.map I) o (vs.map I)=c'.map I/\c'.length=c.length/\∀ k,k<=o->c'.take k=c.take k:=by
 induction vs with
 | nil=>intro c o;exact ⟨c,rfl,rfl,fun _ _=>rfl⟩
 | cons v vs ih=>
  intro c o
  obtain ⟨c',h1,h2,h3⟩:=ih (c.set o v) (o+1)
  refine ⟨c',?_,by rw [h2];simp,fun k hk=> ?_⟩
  ·rw [List.map_cons,setL,<-h1,List.map_set]
  ·rw [h3 k (by omega),List.take_set_of_le hk]
theorem zrep_ints (n:Nat):zrep [.int .i64 0] n=(List.replicate n (0:Int)).map I:=by simp
theorem delete_use {l:List Int} {f:FuncId} {p:Int->Bool} {H:Heap} {r:Nat} (hl:l.length<=1099511627776) (hr:H r=none) (hp:PredR w0 f p) {K:AV->Heap->Prop}
  (k:∀ (c:List Int) (m:Nat),c.length=l.length->m<=l.length->c.take m=l.filter (fun x=> !p x)->K (.ref r 0 m l.length) (upd H r (some (.arr 1 3 (c.map I) l.length)))):
  aqo Tryz.prog w0 105 [.ref r 0 l.length l.length,.clo f [] []] (upd H r (some (.arr 1 3 (l.map I) l.length))) K:=by
 refine (?_:aqo Tryz.prog w0 105 [.ref r 0 l.length l.length,.clo f [] []] (upd H r (some (.arr 1 3 (l.map I) l.length)))
   (fun v H'=>∃ (c:List Int) (m:Nat),c.length=l.length/\m<=l.length/\c.take m=l.filter (fun x=> !p x)/\v= .ref r 0 m l.length/\H'=upd H r (some (.arr 1 3 (c.map I) l.length)))).drop ?_
 ·have hix:=kqn (w0:=w0) (H:=upd H r (some (.arr 1 3 (l.map I) l.length))) (r:=r) (l:=l) (by omega) (by simp) hp
  refine aqf Tryz.func105 rfl Tryz.ntmps105 (ts:=[4]) rfl (by simp) (by kernel_rfl) ?_
  rcases lq2 p l with ⟨hi,hno⟩ | ⟨i0,hi0,hi,hpi,hno⟩
  ·rw [hi] at hix
   repeat'(first|(with_reducible (refine aqd (hK _ _ ?_);clear hK K))|(with_reducible refine vr [] fun K hK=>?_)|((with_reducible first|refine aqa fun K' hK'=>?_|refine aqb fun K' B hK' hB=>?_);simp;repeat'(first|(with_reducible first|((first|refine hK' ?_|refine hB ?_);clear hK' hB K' B)|(apply hK';clear hK' K'))|((with_reducible refine bqp.use hix ?_;try simp);try simp)|fail))|(with_reducible first|apply aqc|refine sp ?_)|fail)
   refine ⟨l,l.length,rfl,by omega,?_,by simp,rfl⟩
   rw [List.take_length,List.filter_eq_self.2]
   intro x hx;simp [hno x hx]
  ·rw [hi] at hix
   repeat'(first|(with_reducible (refine aqd (hK _ _ ?_);clear hK K))|(with_reducible refine vr [] fun K hK=>?_)|((with_reducible first|refine aqa fun K' hK'=>?_|refine aqb fun K' B hK' hB=>?_);simp;repeat'(first|(with_reducible first|((first|refine hK' ?_|refine hB ?_);clear hK' hB K' B)|(apply hK';clear hK' K'))|((with_reducible refine bqp.use hix ?_;try simp);try simp)|(with_reducible refine And.intro ?_ ?_)|(clear hK' K';omega)))|(with_reducible refine sp ?_)|fail)
   all_goals try omega
   refine aqi (fun env h=>∃ (i j:Nat) (c:List Int),i<=j/\i<j/\j<=l.length/\c.length=l.length/\c.take i=(l.take j).filter (fun x=> !p x)/\c.drop j=l.drop j/\env 5=I i/\env 6=I j/\env 0= .ref r 0 l.length l.length/\env 1= .clo f [] []/\
     h=upd H r (some (.arr 1 3 (c.map I) l.length))) (fun env _=>l.length-natA (env 6)) ?_ ?_
   ·refine ⟨i0,i0+1,l,by omega,by omega,by omega,rfl,?_,rfl,by simp,by simp,by simp,by simp,rfl⟩
    rw [List.take_succ_eq_append_getElem hi0,List.filter_append,List.filter_eq_self.2 (fun x hx=>by simp [hno x hx])]
    simp [hpi]
   rintro env h ⟨i,j,c,hij,hij',hj,hcl,hct,hcd,h5,h6,h0,h1,rfl⟩
   have hnat:natA (env 6)=j:=by simp [h6]
   rw [hnat];clear hnat
   by_cases hlt:j<l.length
   ·have hcj:c[j]=l[j]:=by
     have:=congrArg (·[0]?) hcd
     simp only [List.getElem?_drop,Nat.add_zero] at this
     rw [List.getElem?_eq_getElem (by omega),List.getElem?_eq_getElem hlt] at this
     simpa using this
    have hcj':∀ h,c[j]'h=l[j]:=fun _=>hcj
    have hjc:j<c.length:=by omega
    have hic:i<c.length:=by omega
    have hts:(l.take (j+1)).filter (fun x=> !p x)=(l.take j).filter (fun x=> !p x)++if p l[j] then [] else [l[j]]:=by
     rw [List.take_succ_eq_append_getElem hlt,List.filter_append,List.filter_cons]
     cases p l[j]<;>simp
    have hds:c.drop (j+1)=l.drop (j+1):=by
     have:=congrArg (List.drop 1) hcd
     simpa [List.drop_drop] using this
    have hpj:=hp l[j]
    cases hb:p l[j] with
    | true=>
     rw [hb] at hpj
     rw [hb,if_pos rfl,List.append_nil] at hts
     repeat'(with_reducible first|(refine aqd (hK _ _ ?_);clear hK K)|refine vr [] fun K hK=>?_|((first|refine aqa fun K' hK'=>?_|refine aqb fun K' B hK' hB=>?_);simp[h5,h6,h0,h1,hlt,hcl,hcj',hjc];repeat'(first|((first|refine hK' ?_|refine hB ?_);clear hK' hB K' B)|(apply hK';clear hK' K')|refine Ret.use hpj ?_|refine And.intro ?_ ?_|(clear hK' K';omega)))|refine sp ?_|fail)
     exact ⟨⟨i,j+1,c,by omega,by omega,by omega,hcl,by rw [hts];exact hct,hds,by simp [h5],by simp,by simp [h0],by simp [h1],rfl⟩,by simp;omega⟩
    | false=>
     rw [hb] at hpj
     rw [hb,if_neg (by simp)] at hts
     repeat'(with_reducible first|(refine aqd (hK _ _ ?_);clear hK K)|refine vr [] fun K hK=>?_|((first|refine aqa fun K' hK'=>?_|refine aqb fun K' B hK' hB=>?_);simp[h5,h6,h0,h1,hlt,hcl,hcj',hjc,hic];repeat'(first|((first|refine hK' ?_|refine hB ?_);clear hK' hB K' B)|(apply hK';clear hK' K')|refine Ret.use hpj ?_|refine And.intro ?_ ?_|(clear hK' K';omega)))|refine sp ?_|fail)
     refine ⟨⟨i+1,j+1,c.set i l[j],by omega,by omega,by omega,by simpa using hcl,?_,?_,by simp,by simp,by simp [h0],by simp [h1],by simp [List.map_set]⟩,by simp;omega⟩
     ·rw [hts,<-hct,List.take_succ_eq_append_getElem (by simpa using hic),List.take_set_of_le (Nat.le_refl _)]
      simp
     ·rw [List.drop_set_of_lt (by omega)];exact hds
   ·have:j=l.length:=by omega
    subst this
    rw [List.take_length] at hct
    have hil:i<=l.length:=by omega
    obtain ⟨c',e1,e2,e3⟩:=setL_ints (List.replicate (l.length-i) 0) c i
    rw [<-zrep_ints] at e1
    repeat'(with_reducible first|(refine aqd (hK _ _ ?_);clear hK K)|refine vr [] fun K hK=>?_|((first|refine aqa fun K' hK'=>?_|refine aqb fun K' B hK' hB=>?_);simp[h5,h6,h0,h1,hcl,hil];repeat'(first|((first|refine hK' ?_|refine hB ?_);clear hK' hB K' B)|(apply hK';clear hK' K')|fail))|apply aqc|refine sp ?_|fail)
    exact ⟨c',i,by omega,by omega,by rw [e3 i (Nat.le_refl _),hct],by simp,by rw [<-e1];simp⟩
 ·rintro v H' ⟨c,m,h1,h2,h3,rfl,rfl⟩
  exact ⟨_,.refl _,k c m h1 h2 h3⟩
end Go.Am
namespace Go.Am
set_option linter.unusedVariables false
theorem hqh {α:Type} (l:List α):(l.map fun _=>(0:Int)).sum=0:=by
 induction l with
 | nil=>rfl
 | cons a l ih=>simp [ih]
theorem sum_add {α:Type} (l:List α) (f g:α->Int):(l.map fun x=>f x+g x).sum=(l.map f).sum+(l.map g).sum:=by
 induction l with
 | nil=>rfl
 | cons a l ih=>simp only [List.map_cons,List.sum_cons,ih];omega
theorem lqg {α:Type} {l:List α} {f g:α->Int} (h:∀ x∈l,f x=g x):(l.map f).sum=(l.map g).sum:=by
 rw [List.map_congr_left h]
theorem sum_comm {α β:Type} (A:List α) (B:List β) (f:α->β->Int):(A.map fun a=>(B.map (f a)).sum).sum=(B.map fun b=>(A.map fun a=>f a b).sum).sum:=by
 induction A with
 | nil=>simp [hqh]
 | cons a A ih=>simp only [List.map_cons,List.sum_cons,ih,sum_add]
theorem sum_one {l:List Int} (hn:l.Nodup) {f g:Int->Int} {i:Int} (hi:i∈l) (h:∀ x∈l,x≠i->f x=g x):(l.map f).sum=(l.map g).sum+(f i-g i):=by
 induction l with
 | nil=>cases hi
 | cons a l ih=>
  obtain ⟨h1,h2⟩:=List.nodup_cons.1 hn
  simp only [List.map_cons,List.sum_cons]
  by_cases e:a=i
  ·subst e
   have:(l.map f).sum=(l.map g).sum:=lqg fun x hx=>h x (by simp [hx]) fun e=>by subst e;exact h1 hx
   omega
  ·have hi':i∈l:=by
    rcases List.mem_cons.1 hi with hh | hh
    ·exact absurd hh.symm e
    ·exact hh
   have:=ih h2 hi' fun x hx hne=>h x (by simp [hx]) hne
   have:=h a (by simp) e
   omega
def b2i (b:Bool):Int:=if b then 1 else 0
theorem sum_b2i {T:List Int} (hn:T.Nodup) (x:Int):(T.map fun u=>b2i (decide (x=u))).sum=b2i (decide (x∈T)):=by
 induction T with
 | nil=>rfl
 | cons a T ih=>
  obtain ⟨h1,h2⟩:=List.nodup_cons.1 hn
  simp only [List.map_cons,List.sum_cons,ih h2]
  by_cases e:x=a
  ·subst e;simp [b2i,h1]
  ·simp [b2i,e]
section
variable (arcs:List (Int×Int))
def tlA (i:Int):Int:=(arcs.getD i.toNat (0,0)).1
def hdA (i:Int):Int:=(arcs.getD i.toNat (0,0)).2
def exA (full:Int->Bool) (u:Int):Int:=((upto arcs.length).map fun i=>if full i then b2i (decide (hdA arcs i=u))-b2i (decide (tlA arcs i=u)) else 0).sum
theorem ex_cut (full:Int->Bool) {T:List Int} (hn:T.Nodup):
  (T.map (exA arcs full)).sum=((upto arcs.length).map fun i=>if full i then b2i (decide (hdA arcs i∈T))-b2i (decide (tlA arcs i∈T)) else 0).sum:=by
 unfold exA
 rw [sum_comm]
 refine lqg fun i _=> ?_
 by_cases h:full i=true
 ·simp only [h,if_true]
  have:=sum_add T (fun u=>b2i (decide (hdA arcs i=u))) (fun u=> - b2i (decide (tlA arcs i=u)))
  have e:(T.map fun u=> - b2i (decide (tlA arcs i=u))).sum= - (T.map fun u=>b2i (decide (tlA arcs i=u))).sum:=by
   clear this hn
   induction T with
   | nil=>rfl
   | cons a T ih=>simp only [List.map_cons,List.sum_cons,ih];omega
  simp only [Int.sub_eq_add_neg]
  rw [this,e,sum_b2i hn,sum_b2i hn]
 ·simp [h,hqh]
end
section
variable (arcs:List (Int×Int))
def frA (full:Int->Bool) (i:Int):Int:=if full i then hdA arcs i else tlA arcs i
def toA (full:Int->Bool) (i:Int):Int:=if full i then tlA arcs i else hdA arcs i
structure lqb (gone full:Int->Bool) (root v:Int) (units:Nat):Prop where
 rng:∀ i:Int,full i=true->0<=i/\i<arcs.length/\gone i=false
 zero:∀ u:Int,u≠root->u≠v->exA arcs full u=0
 most:exA arcs full v=units
structure WkA (n:Nat) (gone full:Int->Bool) (root:Int) (by':Int->Int) (come:Int->Bool):Prop where
 src:come root=true
 step:∀ i:Int,0<=i->i<arcs.length->gone i=false->come (frA arcs full i)=true->come (toA arcs full i)=true
 back:∃ rank:Int->Nat,∀ u,come u=true->u≠root->0<=by' u/\by' u<arcs.length/\gone (by' u)=false/\toA arcs full (by' u)=u/\come (frA arcs full (by' u))=true/\rank (frA arcs full (by' u))<rank u
 rng:∀ u,come u=true->0<=u/\u<n
def entA (gone:Int->Bool) (T:List Int):List Int:=(upto arcs.length).filter fun i=> !gone i&&decide (hdA arcs i∈T)&& !decide (tlA arcs i∈T)
theorem len_sum {l:List Int} (p:Int->Bool):((l.filter p).length:Int)=(l.map fun x=>b2i (p x)).sum:=by
 induction l with
 | nil=>rfl
 | cons a l ih=>
  rw [List.filter_cons]
  simp only [List.map_cons,List.sum_cons,<-ih]
  cases h:p a<;>simp [b2i]<;>omega
theorem sum_le {α:Type} {l:List α} {f g:α->Int} (h:∀ x∈l,f x<=g x):(l.map f).sum<=(l.map g).sum:=by
 induction l with
 | nil=>simp
 | cons a l ih=>
  simp only [List.map_cons,List.sum_cons]
  have:=h a (by simp)
  have:=ih fun x hx=>h x (by simp [hx])
  omega
variable {arcs} {gone full:Int->Bool} {root v:Int} {units:Nat}
theorem lqb.cut (h:lqb arcs gone full root v units) {T:List Int} (hn:T.Nodup) (hr:root∉T) (hv:v∈T):
  (units:Int)=((upto arcs.length).map fun i=>if full i then b2i (decide (hdA arcs i∈T))-b2i (decide (tlA arcs i∈T)) else 0).sum:=by
 rw [<-ex_cut arcs full hn]
 have:=sum_one hn (f:=exA arcs full) (g:=fun _=>0) hv fun x hx hne=>h.zero x (fun e=>by subst e;exact hr hx) hne
 rw [hqh] at this
 have:=h.most
 omega
theorem ent_term (h:lqb arcs gone full root v units) (T:List Int) (i:Int):
  (if full i then b2i (decide (hdA arcs i∈T))-b2i (decide (tlA arcs i∈T)) else 0)<=b2i (!gone i&&decide (hdA arcs i∈T)&& !decide (tlA arcs i∈T)):=by
 cases hf:full i with
 | false=>simp [b2i];split<;>omega
 | true=>
  have:=(h.rng i hf).2.2
  by_cases a:hdA arcs i∈T<;>by_cases b:tlA arcs i∈T<;>simp [b2i,a,b,this]
theorem lqb.le (h:lqb arcs gone full root v units) {T:List Int} (hn:T.Nodup) (hr:root∉T) (hv:v∈T):units<=(entA arcs gone T).length:=by
 have h1:=h.cut hn hr hv
 have h2:=len_sum (l:=upto arcs.length) fun i=> !gone i&&decide (hdA arcs i∈T)&& !decide (tlA arcs i∈T)
 have h3:=sum_le (l:=upto arcs.length) fun i _=>ent_term h T i
 unfold entA
 omega
end
def BackA (arcs:List (Int×Int)) (gone full:Int->Bool) (root:Int) (by':Int->Int) (come:Int->Bool) (rank:Int->Nat):Prop:=
 ∀ u,come u=true->u≠root->0<=by' u/\by' u<arcs.length/\gone (by' u)=false/\toA arcs full (by' u)=u/\come (frA arcs full (by' u))=true/\rank (frA arcs full (by' u))<rank u
structure SendI (arcs:List (Int×Int)) (gone full full':Int->Bool) (root:Int) (by':Int->Int) (come:Int->Bool) (rank:Int->Nat) (e v:Int):Prop where
 ex:∀ u:Int,exA arcs full' u=exA arcs full u+b2i (decide (u=e))-b2i (decide (u=v))
 same:∀ u:Int,come u=true->u≠root->rank u<=rank v->full' (by' u)=full (by' u)
 rng:∀ i:Int,full' i=true->0<=i/\i<arcs.length/\gone i=false
 at':come v=true
section
variable {arcs:List (Int×Int)} {gone full full':Int->Bool} {root e v:Int} {by':Int->Int} {come:Int->Bool} {rank:Int->Nat}
theorem SendI.start (hr:∀ i:Int,full i=true->0<=i/\i<arcs.length/\gone i=false) (hc:come e=true):SendI arcs gone full full root by' come rank e e:=
 ⟨fun u=>by omega,fun u _ _ _=>rfl,hr,hc⟩
end
structure WMid (arcs:List (Int×Int)) (n:Nat) (gone full:Int->Bool) (root:Int) (by':Int->Int) (come:Int->Bool) (q:List Int) (u:Int) (i:Int):Prop where
 src:come root=true
 rng:∀ x,come x=true->0<=x/\x<n
 inq:∀ x∈q,come x=true
 cur:come u=true
 back:∃ (rank:Int->Nat) (c:Nat),(∀ x,come x=true->rank x<c)/\BackA arcs gone full root by' come rank
 step:∀ j:Int,0<=j->j<arcs.length->gone j=false->come (frA arcs full j)=true->frA arcs full j∉q->(frA arcs full j=u->j<i)->come (toA arcs full j)=true
structure WOut (arcs:List (Int×Int)) (n:Nat) (gone full:Int->Bool) (root:Int) (by':Int->Int) (come:Int->Bool) (q:List Int):Prop where
 src:come root=true
 rng:∀ x,come x=true->0<=x/\x<n
 inq:∀ x∈q,come x=true
 back:∃ (rank:Int->Nat) (c:Nat),(∀ x,come x=true->rank x<c)/\BackA arcs gone full root by' come rank
 step:∀ j:Int,0<=j->j<arcs.length->gone j=false->come (frA arcs full j)=true->frA arcs full j∉q->come (toA arcs full j)=true
section
variable {arcs:List (Int×Int)} {n:Nat} {gone full:Int->Bool} {root u i:Int} {by':Int->Int} {come:Int->Bool} {q:List Int}
theorem WOut.start (h:0<=root/\root<n):WOut arcs n gone full root by' (setF (fun _=>false) root true) [root] where
 src:=aq1 _ _ _
 rng x hx:=by
  by_cases e:x=root
  ·subst e;exact h
  ·rw [aq4 _ _ e] at hx;cases hx
 inq x hx:=by simp at hx;subst hx;exact aq1 _ _ _
 back:=⟨fun _=>0,1,fun _ _=>Nat.zero_lt_one,fun x hx hne=>by rw [aq4 _ _ hne] at hx;cases hx⟩
 step j _ _ _ hc hq:=by
  by_cases e:frA arcs full j=root
  ·rw [e] at hq;simp at hq
  ·rw [aq4 _ _ e] at hc;cases hc
theorem WOut.pop (h:WOut arcs n gone full root by' come (u::q)):WMid arcs n gone full root by' come q u 0 where
 src:=h.src
 rng:=h.rng
 inq x hx:=h.inq x (by simp [hx])
 cur:=h.inq u (by simp)
 back:=h.back
 step j h0 h1 hg hc hq hu:=h.step j h0 h1 hg hc fun hx=>by
  rcases List.mem_cons.1 hx with e | e
  ·have:=hu e;omega
  ·exact hq e
theorem WMid.skip (h:WMid arcs n gone full root by' come q u i) (hs:gone i=true\/frA arcs full i≠u\/come (toA arcs full i)=true):WMid arcs n gone full root by' come q u (i+1) where
 src:=h.src
 rng:=h.rng
 inq:=h.inq
 cur:=h.cur
 back:=h.back
 step j h0 h1 hg hc hq hu:=by
  by_cases e:j=i
  ·subst e
   rcases hs with hs | hs | hs
   ·rw [hs] at hg;cases hg
   ·exact h.step j h0 h1 hg hc hq fun e=>absurd e hs
   ·exact hs
  ·exact h.step j h0 h1 hg hc hq fun e'=>by have:=hu e';omega
theorem WMid.new (h:WMid arcs n gone full root by' come q u i) (h0:0<=i) (h1:i<arcs.length) (hg:gone i=false) (hf:frA arcs full i=u) (hc:come (toA arcs full i)=false) (hr:0<=toA arcs full i/\toA arcs full i<n):
  WMid arcs n gone full root (setF by' (toA arcs full i) i) (setF come (toA arcs full i) true) (q++[toA arcs full i]) u (i+1):=by
 have hne:∀ {x},come x=true->x≠toA arcs full i:=fun hx e=>by rw [e,hc] at hx;cases hx
 have hup:∀ {x},come x=true->setF come (toA arcs full i) true x=true:=fun hx=>by rw [aq4 _ _ (hne hx)];exact hx
 obtain ⟨rank,c,hb,hB⟩:=h.back
 refine ⟨hup h.src,fun x hx=> ?_,fun x hx=> ?_,hup h.cur,⟨setF rank (toA arcs full i) c,c+1,fun x hx=> ?_,fun x hx hne'=> ?_⟩,fun j j0 j1 jg jc jq ju=> ?_⟩
 ·by_cases e:x=toA arcs full i
  ·subst e;exact hr
  ·rw [aq4 _ _ e] at hx;exact h.rng x hx
 ·rcases List.mem_append.1 hx with hx | hx
  ·exact hup (h.inq x hx)
  ·simp at hx;subst hx;exact aq1 _ _ _
 ·by_cases e:x=toA arcs full i
  ·subst e;rw [aq1];omega
  ·rw [aq4 _ _ e] at hx ⊢;have:=hb x hx;omega
 ·by_cases e:x=toA arcs full i
  ·subst e
   rw [aq1,aq1,hf]
   refine ⟨h0,h1,hg,rfl,hup h.cur,?_⟩
   rw [aq4 _ _ (hne h.cur)]
   exact hb u h.cur
  ·rw [aq4 _ _ e] at hx
   obtain ⟨a0,a1,a2,a3,a4,a5⟩:=hB x hx hne'
   rw [aq4 _ _ e,aq4 _ _ e]
   exact ⟨a0,a1,a2,a3,hup a4,by rw [aq4 _ _ (hne a4)];exact a5⟩
 ·rw [List.mem_append] at jq
  have jf:frA arcs full j≠toA arcs full i:=fun e=>jq (.inr (by simp [e]))
  rw [aq4 _ _ jf] at jc
  by_cases e:j=i
  ·subst e;exact aq1 _ _ _
  ·exact hup (h.step j j0 j1 jg jc (fun h=>jq (.inl h)) fun e'=>by have:=ju e';omega)
theorem WMid.end (h:WMid arcs n gone full root by' come q u arcs.length):WOut arcs n gone full root by' come q:=
 ⟨h.src,h.rng,h.inq,h.back,fun j h0 h1 hg hc hq=>h.step j h0 h1 hg hc hq fun _=>h1⟩
theorem WOut.fin (h:WOut arcs n gone full root by' come []):WkA arcs n gone full root by' come:=
 ⟨h.src,fun j h0 h1 hg hc=>h.step j h0 h1 hg hc (by simp),by obtain ⟨rank,c,_,hB⟩:=h.back;exact ⟨rank,hB⟩,h.rng⟩
end
end Go.Am
namespace Go.Am
open Go Go.Proofs
set_option linter.unusedVariables false
set_option linter.unusedSimpArgs false
variable {w0:World}
attribute [local irreducible] AWP aqo
attribute [local congr] aqp
structure FlowH (H:Heap) (F G L n:Nat) (arcs:List (Int×Int)) (gone full:Int->Bool):Prop where
 lg:L≠G
 hF:H F=some (.box [I n,bqy arcs,.ref G 0 arcs.length arcs.length,.ref L 0 arcs.length arcs.length])
 hG:H G=some (.arr 1 4 (labB arcs.length gone) arcs.length)
 hL:H L=some (.arr 1 4 (labB arcs.length full) arcs.length)
theorem FlowH.lf {H:Heap} {F G L n:Nat} {arcs:List (Int×Int)} {gone full:Int->Bool} (fh:FlowH H F G L n arcs gone full):L≠F:=fun e=>by
 have:=fh.hL
 rw [e,fh.hF] at this
 cases this
theorem FlowH.set {H:Heap} {F G L n:Nat} {arcs:List (Int×Int)} {gone full:Int->Bool} (fh:FlowH H F G L n arcs gone full) (full':Int->Bool):
  FlowH (upd H L (some (.arr 1 4 (labB arcs.length full') arcs.length))) F G L n arcs gone full':=
 ⟨fh.lg,by rw [aqm _ _ _ (Ne.symm fh.lf)];exact fh.hF,by rw [aqm _ _ _ (Ne.symm fh.lg)];exact fh.hG,aqj _ _ _⟩
theorem lqb.start (arcs:List (Int×Int)) (gone:Int->Bool) (root v:Int):lqb arcs gone (fun _=>false) root v 0:=
 ⟨fun i h=>(Bool.false_ne_true h).elim,fun u _ _=>by simp [exA,hqh],by simp [exA,hqh]⟩
theorem lqb.next {arcs:List (Int×Int)} {gone full full':Int->Bool} {root v:Int} {units:Nat} (h:lqb arcs gone full root v units) (hv:v≠root)
  (e:∀ u:Int,exA arcs full' u=exA arcs full u+b2i (decide (u=v))-b2i (decide (u=root))) (r:∀ i:Int,full' i=true->0<=i/\i<arcs.length/\gone i=false):lqb arcs gone full' root v (units+1) where
 rng:=r
 zero u h1 h2:=by rw [e u,h.zero u h1 h2];simp [b2i,h1,h2]
 most:=by rw [e v,h.most];simp [b2i,hv]
theorem and_one' (x:Nat) (hx:x<4611686018427387904):IntKind.i64.wrap ((BitVec.ofInt 64 (x:Int)&&&1#64).toNat:Int)=((x%2:Nat):Int):=by
 have e:(BitVec.ofInt 64 (x:Int)&&&1#64).toNat=x%2:=by
  rw [BitVec.toNat_and]
  have h1:(BitVec.ofInt 64 (x:Int)).toNat=x:=by
   rw [BitVec.toNat_ofInt]
   omega
  rw [h1]
  show x&&&1=x%2
  exact Nat.and_one_is_mod x
 rw [e]
 unfold IntKind.wrap
 simp [IntKind.bits,IntKind.signed]
 omega
theorem bit_and {s q:Nat} (hs:s<4611686018427387904):IntKind.i64.wrap ((BitVec.ofInt 64 ((s:Int)/2^q)&&&1#64).toNat:Int)=((if s.testBit q then 1 else 0:Nat):Int):=by
 have hbit:(s/2^q)%2=if s.testBit q then 1 else 0:=by
  rw [Nat.testBit_eq_decide_div_mod_eq]
  by_cases e:s/2^q%2=1
  ·simp [e]
  ·simp [e];omega
 have e:(s:Int)/2^q=((s/2^q:Nat):Int):=by simp
 rw [e,and_one' _ (by have:=Nat.div_le_self s (2^q);omega),hbit]
theorem bit_fdiv (s q:Nat):(s:Int).fdiv (2^q)=(s:Int)/2^q:=by
 rw [Int.fdiv_eq_ediv_of_nonneg _ (by exact Int.pow_nonneg (by omega))]
def subL (n bits:Nat):List Int:=(upto n).filter fun j=>bits.testBit j.toNat
theorem mem_subL {n bits:Nat} {x:Int}:x∈subL n bits↔(0<=x/\x<n)/\bits.testBit x.toNat=true:=by simp [subL,List.mem_filter,aqq]
theorem subL_pts {n:Nat} (h:n<=4096) (bits:Nat):Pts n (subL n bits):=⟨(cqd (by omega)).filter _,fun x hx=>(mem_subL.1 hx).1⟩
theorem subset_ret {n bits:Nat} (hn:n<=60) (hb:bits<4611686018427387904):Ret Tryz.prog w0 47 [I n,I bits] (ints (subL n bits)):=by
 intro H
 refine aqf Tryz.func47 rfl Tryz.ntmps47 (ts:=[4]) rfl (by simp) (by kernel_rfl) ?_ |>cq4
 repeat'(with_reducible first|(refine aqd (hK _ _ ?_);clear hK K)|refine vr [7] fun K hK=>?_|(refine aqa fun K' hK'=>?_;simp;repeat'(first|(apply hK';clear hK' K')|intro hg|fail))|refine sp ?_|fail)
 rename_i r
 have hr:H r=none:=hg
 clear hg
 refine aqi (fun env h=>∃ k:Nat,k<=n/\env 6=I k/\env 0=I n/\env 1=I bits/\env 5= .ref r 0 (subL k bits).length (subL k bits).length/\h=upd H r (some (.arr 1 3 ((subL k bits).map I) (subL k bits).length))) (fun env _=>n-natA (env 6)) ?_ ?_
 ·exact ⟨0,by omega,by simp,by simp,by simp,by simp [subL,bq4],by simp [subL,bq4]⟩
 rintro env h ⟨k,hk,h6,h0,h1,h5,rfl⟩
 have hnat:natA (env 6)=k:=by simp [h6]
 rw [hnat];clear hnat
 by_cases hlt:k<n
 ·have hmk:min k 64=k:=by omega
  have hfd:=bit_fdiv bits k
  have hand:=bit_and (q:=k) hb
  have hfs:subL (k+1) bits=subL k bits++if bits.testBit k then [(k:Int)] else []:=by
   rw [subL,dqw,List.filter_append,List.filter_cons]
   by_cases h:bits.testBit k=true<;>simp [h,subL]
  have hle:(subL k bits).length<=k:=by
   have:=List.length_filter_le (fun j:Int=>bits.testBit j.toNat) (upto k)
   rw [aqv] at this
   exact this
  generalize subL k bits=o at *
  cases hb2:bits.testBit k
  ·rw [hb2] at hfs hand
   simp only [Bool.false_eq_true,if_false,List.append_nil] at hfs hand
   repeat'(with_reducible first|(refine aqd (hK _ _ ?_);clear hK K)|refine vr [] fun K hK=>?_|(refine aqa fun K' hK'=>?_;simp[h6,h0,h1,h5,hlt,hmk,hfd,hand,IntKind.bits];repeat'(first|(apply hK';clear hK' K')|refine And.intro ?_ ?_|(clear hK' K';omega)))|(with_reducible refine aqb fun A B hA hB=>?_;simp[h6,h0,h1,h5,hlt,hmk,hfd,hand,IntKind.bits];repeat'(with_reducible first|(apply hA;clear hA hB A B)|(apply hB;clear hA hB A B)|refine And.intro ?_ ?_|intro hc))|refine sp ?_|fail)
   all_goals try omega
   all_goals first | exact absurd (hc.symm.trans hand) (by decide) | exact ⟨⟨k+1,by omega,by simp,by simp [h0],by simp [h1],by rw [hfs];simp [h5],by rw [hfs]⟩,by simp;omega⟩
  ·rw [hb2] at hfs hand
   simp only [if_true] at hfs hand
   repeat'(with_reducible first|(refine aqd (hK _ _ ?_);clear hK K)|refine vr [] fun K hK=>?_|(refine aqa fun K' hK'=>?_;simp[h6,h0,h1,h5,hlt,hmk,hfd,hand,IntKind.bits];repeat'(first|(apply hK';clear hK' K')|refine And.intro ?_ ?_|(clear hK' K';omega)))|(with_reducible refine aqb fun A B hA hB=>?_;simp[h6,h0,h1,h5,hlt,hmk,hfd,hand,IntKind.bits];repeat'(with_reducible first|(apply hA;clear hA hB A B)|(apply hB;clear hA hB A B)|refine And.intro ?_ ?_|intro hc))|refine sp ?_|fail)
   all_goals try omega
   all_goals first | exact absurd hand hc | exact ⟨⟨k+1,by omega,by simp,by simp [h0],by simp [h1],by rw [hfs];simp,by rw [hfs];simp⟩,by simp;omega⟩
 ·have:k=n:=by omega
  subst this
  repeat'(with_reducible first|(refine aqd (hK _ _ ?_);clear hK K)|refine vr [] fun K hK=>?_|(refine aqa fun K' hK'=>?_;simp[h6,h0,h1,h5];repeat'(first|(apply hK';clear hK' K')|fail))|(with_reducible refine aqb fun A B hA hB=>?_;simp[h6,h0,h1,h5];repeat'(with_reducible first|(apply hA;clear hA hB A B)|(apply hB;clear hA hB A B)|refine And.intro ?_ ?_|intro hc))|apply aqc|refine sp ?_|fail)
  exact frz hr (by simp) rfl (by simp)
def okP (p:Int):Prop:=1<=p/\p<=2147483647
theorem cqb {a p:Int} (h:0<=a):a.tmod p=a%p:=Int.tmod_eq_emod_of_nonneg h
theorem jq4 {a p:Int} (hp:0<p):(if a.tmod p<0 then a.tmod p+p else a.tmod p)=a%p:=by
 have h0:=Int.tmod_eq_emod (a:=a) (b:=p)
 have h1:=Int.emod_nonneg a (show p≠0 by omega)
 have h2:=Int.emod_lt_of_pos a hp
 have h3:(p.natAbs:Int)=p:=by omega
 by_cases h:0<=a\/p ∣ a
 ·rw [if_pos h] at h0
  have h4:a.tmod p=a%p:=by simpa using h0
  rw [if_neg (by omega)];exact h4
 ·rw [if_neg h,h3] at h0
  rw [if_pos (by omega)];omega
theorem mqn {a p:Int} (hp:0<p): -p<=a.tmod p/\a.tmod p<p:=by
 have h:=jq4 (a:=a) hp
 have h1:=Int.emod_nonneg a (show p≠0 by omega)
 have h2:=Int.emod_lt_of_pos a hp
 by_cases c:a.tmod p<0
 ·rw [if_pos c] at h;omega
 ·rw [if_neg c] at h;omega
theorem kqf {p:Int}:Ret Tryz.prog w0 229 [I p] (B (decide (1<=p)&&decide (p<=2147483647))):=by
 intro H
 refine aqf Tryz.func229 rfl Tryz.ntmps229 (ts:=[2]) rfl (by simp) (by kernel_rfl) ?_
 repeat'(with_reducible first|(refine aqd (hK _ _ ?_);clear hK K)|refine vr [] fun K hK=>?_|((first|refine aqa fun K' hK'=>?_|(apply aqk;refine aqe rfl fun K' hK'=>?_));simp;repeat'(first|(apply hK';clear hK' K')|refine And.intro ?_ ?_|intro hg|fail))|apply aqc|refine sp ?_|fail)
 all_goals (try simp_all)
 all_goals omega
theorem gqx {a p:Int} (hp:okP p):Ret Tryz.prog w0 228 [I a,I p] (I (a%p)):=by
 intro H
 obtain ⟨h1,h2⟩:=hp
 have hm:=kqf (w0:=w0) (p:=p)
 simp only [h1,h2,decide_true,Bool.and_self] at hm
 have hb:=mqn (a:=a) (p:=p) (by omega)
 have he:=jq4 (a:=a) (p:=p) (by omega)
 refine aqf Tryz.func228 rfl Tryz.ntmps228 (ts:=[4]) rfl (by simp) (by kernel_rfl) ?_
 by_cases c:a.tmod p<0
 ·rw [if_pos c] at he
  repeat'(with_reducible first|(refine aqd (hK _ _ ?_);clear hK K)|refine vr [] fun K hK=>?_|(refine aqa fun K' hK'=>?_;simp[c];repeat'(first|(apply hK';clear hK' K')|refine Ret.use hm ?_|refine And.intro ?_ ?_|(clear hK' K';omega)))|(with_reducible refine aqb fun A B hA hB=>?_;simp[c];repeat'(with_reducible first|(apply hA;clear hA hB A B)|(apply hB;clear hA hB A B)|refine And.intro ?_ ?_|intro hc))|apply aqc|refine sp ?_|fail)
  all_goals first | omega | (simp;omega)
 ·rw [if_neg c] at he
  repeat'(with_reducible first|(refine aqd (hK _ _ ?_);clear hK K)|refine vr [] fun K hK=>?_|(refine aqa fun K' hK'=>?_;simp[c];repeat'(first|(apply hK';clear hK' K')|refine Ret.use hm ?_|refine And.intro ?_ ?_|(clear hK' K';omega)))|(with_reducible refine aqb fun A B hA hB=>?_;simp[c];repeat'(with_reducible first|(apply hA;clear hA hB A B)|(apply hB;clear hA hB A B)|refine And.intro ?_ ?_|intro hc))|apply aqc|refine sp ?_|fail)
  simp [he]
theorem dq0 (a b p:Int):(a%p*b)%p=(a*b)%p:=by rw [Int.mul_emod,Int.emod_emod_of_dvd _ (Int.dvd_refl p),<-Int.mul_emod]
theorem cqk (a b p:Int):(a*(b%p))%p=(a*b)%p:=by rw [Int.mul_comm,dq0,Int.mul_comm]
theorem gqa (a p:Int) (n:Nat):((a%p)^n)%p=(a^n)%p:=by
 induction n with
 | zero=>simp
 | succ n ih=>rw [Int.pow_succ,Int.pow_succ,cqk,<-dq0,ih,dq0]
theorem pow_half (x:Int) (m:Nat):(x*x)^(m/2)*(if m%2=1 then x else 1)=x^m:=by
 have h:∀ k:Nat,(x*x)^k=x^(2*k):=fun k=>by
  induction k with
  | zero=>simp
  | succ k ih=>rw [Int.pow_succ,ih,show 2*(k+1)=2*k+1+1 by omega,Int.pow_succ,Int.pow_succ,Int.mul_assoc]
 rw [h]
 by_cases e:m%2=1
 ·rw [if_pos e,<-Int.pow_succ]
  congr 1;omega
 ·rw [if_neg e,Int.mul_one]
  congr 1;omega
theorem hqt {x y p:Int} (hx:0<=x/\x<p) (hy:0<=y/\y<p) (hp:p<=2147483647):0<=x*y/\x*y<=4611686014132420609:=by
 refine ⟨Int.mul_nonneg hx.1 hy.1,?_⟩
 have:x*y<=2147483647*2147483647:=Int.mul_le_mul (by omega) (by omega) hy.1 (by omega)
 omega
theorem pow_ret {a p:Int} {n:Nat} (hp:okP p) (hn:n<4611686018427387904):Ret Tryz.prog w0 224 [I a,I n,I p] (I (a^n%p)):=by
 intro H
 obtain ⟨h1,h2⟩:=hp
 have hm:=kqf (w0:=w0) (p:=p)
 simp only [h1,h2,decide_true,Bool.and_self] at hm
 have c1:=gqx (w0:=w0) (a:=a) (p:=p) ⟨h1,h2⟩
 have c2:=gqx (w0:=w0) (a:=1) (p:=p) ⟨h1,h2⟩
 have hn0:¬(n:Int)<0:=by omega
 refine aqf Tryz.func224 rfl Tryz.ntmps224 (ts:=[6]) rfl (by simp) (by kernel_rfl) ?_
 repeat'(with_reducible first|(refine aqd (hK _ _ ?_);clear hK K)|refine vr [] fun K hK=>?_|((first|refine aqa fun K' hK'=>?_|(apply aqk;refine aqe rfl fun K' hK'=>?_));simp[hn0];repeat'(first|(apply hK';clear hK' K')|refine Ret.use hm ?_|refine Ret.use c1 ?_|refine Ret.use c2 ?_|fail))|(with_reducible refine aqb fun A B hA hB=>?_;simp[hn0];repeat'(with_reducible first|(apply hA;clear hA hB A B)|(apply hB;clear hA hB A B)|refine And.intro ?_ ?_|intro hc))|refine sp ?_|fail)
 refine aqi (fun env h=>∃ (m:Nat) (x o:Int),m<4611686018427387904/\env 1=I m/\env 0=I x/\env 7=I o/\env 2=I p/\(0<=x/\x<p)/\(0<=o/\o<p)/\(o*x^m)%p=a^n%p/\h=H) (fun env _=>natA (env 1)) ?_ ?_
 ·exact ⟨n,a%p,1%p,hn,by simp,by simp,by simp,by simp,⟨Int.emod_nonneg _ (by omega),Int.emod_lt_of_pos _ (by omega)⟩,⟨Int.emod_nonneg _ (by omega),Int.emod_lt_of_pos _ (by omega)⟩,by rw [dq0,Int.one_mul,gqa],rfl⟩
 rintro env h ⟨m,x,o,hml,e1,e0,e7,e2,hx,ho,hi,rfl⟩
 have hnat:natA (env 1)=m:=by simp [e1]
 rw [hnat];clear hnat
 by_cases hpos:0<m
 ·have an:IntKind.i64.wrap ((BitVec.ofNat 64 m&&&1#64).toNat:Int)=((m%2:Nat):Int):=by rw [<-BitVec.ofInt_natCast];exact and_one' m hml
  have fd:(m:Int).fdiv 2=((m/2:Nat):Int):=by rw [Int.fdiv_eq_ediv_of_nonneg _ (by omega)];omega
  obtain ⟨b1,b2⟩:=hqt ho hx h2
  obtain ⟨b3,b4⟩:=hqt hx hx h2
  have t1:=cqb (p:=p) b1
  have t2:=cqb (p:=p) b3
  have hh:=pow_half x m
  have q1:=Int.emod_nonneg (o*x) (show p≠0 by omega)
  have q2:=Int.emod_lt_of_pos (o*x) (show 0<p by omega)
  have q3:=Int.emod_nonneg (x*x) (show p≠0 by omega)
  have q4:=Int.emod_lt_of_pos (x*x) (show 0<p by omega)
  have hp0:¬p=0:=by omega
  by_cases hodd:m%2=1
  ·rw [hodd] at an
   rw [if_pos hodd] at hh
   have hi':((o*x)%p*((x*x)%p)^(m/2))%p=a^n%p:=by
    rw [dq0,<-cqk,gqa,cqk,Int.mul_assoc,Int.mul_comm x,hh];exact hi
   repeat'(with_reducible first|(refine aqd (hK _ _ ?_);clear hK K)|refine vr [] fun K hK=>?_|(refine aqa fun K' hK'=>?_;simp[e1,e0,e7,e2,hpos,an,fd,hp0,t1,t2,IntKind.bits];repeat'(first|(apply hK';clear hK' K')|refine And.intro ?_ ?_|(clear hK' K';omega)))|(with_reducible refine aqb fun A B hA hB=>?_;simp[e1,e0,e7,e2,hpos,an,fd,hp0,t1,t2,IntKind.bits];repeat'(with_reducible first|(apply hA;clear hA hB A B)|(apply hB;clear hA hB A B)|refine And.intro ?_ ?_|intro hc))|refine sp ?_|fail)
   all_goals first
    | exact absurd an hc
    | exact ⟨⟨m/2,_,_,by omega,by simp,by simp,by simp,by simp [e2],⟨q3,q4⟩,⟨q1,q2⟩,hi',rfl⟩,by simp;omega⟩
  ·have hev:m%2=0:=by omega
   rw [hev] at an
   rw [if_neg hodd,Int.mul_one] at hh
   have hi':(o*((x*x)%p)^(m/2))%p=a^n%p:=by
    rw [<-cqk,gqa,cqk,hh];exact hi
   repeat'(with_reducible first|(refine aqd (hK _ _ ?_);clear hK K)|refine vr [] fun K hK=>?_|(refine aqa fun K' hK'=>?_;simp[e1,e0,e7,e2,hpos,an,fd,hp0,t1,t2,IntKind.bits];repeat'(first|(apply hK';clear hK' K')|refine And.intro ?_ ?_|(clear hK' K';omega)))|(with_reducible refine aqb fun A B hA hB=>?_;simp[e1,e0,e7,e2,hpos,an,fd,hp0,t1,t2,IntKind.bits];repeat'(with_reducible first|(apply hA;clear hA hB A B)|(apply hB;clear hA hB A B)|refine And.intro ?_ ?_|intro hc))|refine sp ?_|fail)
   all_goals first
    | exact absurd (hc.symm.trans an) (by decide)
    | exact ⟨⟨m/2,_,_,by omega,by simp,by simp,by simp [e7],by simp [e2],⟨q3,q4⟩,ho,hi',rfl⟩,by simp;omega⟩
 ·have:m=0:=by omega
  subst this
  rw [Int.pow_zero,Int.mul_one,Int.emod_eq_of_lt ho.1 ho.2] at hi
  repeat'(with_reducible first|(refine aqd (hK _ _ ?_);clear hK K)|refine vr [] fun K hK=>?_|(refine aqa fun K' hK'=>?_;simp[e1,e0,e7,e2];repeat'(first|(apply hK';clear hK' K')|fail))|(with_reducible refine aqb fun A B hA hB=>?_;simp[e1,e0,e7,e2];repeat'(with_reducible first|(apply hA;clear hA hB A B)|(apply hB;clear hA hB A B)|refine And.intro ?_ ?_|intro hc))|apply aqc|refine sp ?_|fail)
  simp [hi]
def bqg (p:Int):Bool:=decide (2<=p)&&(upto 11).all fun d=> !(decide (2<=d)&&decide (d*d<=p)&&decide (p%d=0))
theorem tmod_emod2 {a p:Int} (hp:0<p):a.tmod p%p=a%p:=by
 have h:=jq4 (a:=a) hp
 by_cases c:a.tmod p<0
 ·rw [if_pos c] at h
  have h2:=congrArg (· % p) h
  simp only [Int.add_emod_right] at h2
  rw [h2];exact Int.emod_emod_of_dvd _ (Int.dvd_refl p)
 ·rw [if_neg c] at h;rw [h];exact Int.emod_emod_of_dvd _ (Int.dvd_refl p)
theorem mod4_eq {a p:Int} (hp:0<p):(a.tmod p+p).tmod p=a%p:=by
 have hb:=mqn (a:=a) hp
 rw [cqb (by omega),Int.add_emod_right,tmod_emod2 hp]
theorem mq2 {a p:Int} (hp:okP p):Ret Tryz.prog w0 204 [I a,I p] (I (a%p)):=by
 intro H
 obtain ⟨h1,h2⟩:=hp
 have hb:=mqn (a:=a) (p:=p) (by omega)
 have he:=mod4_eq (a:=a) (p:=p) (by omega)
 have g1:¬p<1:=by omega
 have g2:¬2147483647<p:=by omega
 have g3:¬p=0:=by omega
 refine aqf Tryz.func204 rfl Tryz.ntmps204 (ts:=[4]) rfl (by simp) (by kernel_rfl) ?_
 repeat'(with_reducible first|(refine aqd (hK _ _ ?_);clear hK K)|refine vr [] fun K hK=>?_|((first|refine aqa fun K' hK'=>?_|refine aqb fun K' B hK' hB=>?_|(apply aqk;refine aqe rfl fun K' hK'=>?_));simp[g1,g2,g3,he];repeat'(first|((first|refine hK' ?_|refine hB ?_);clear hK' hB K' B)|(apply hK';clear hK' K')|refine And.intro ?_ ?_|(clear hK' K';omega)))|apply aqc|refine sp ?_|fail)
 all_goals first | omega | simp
theorem pow4_ret {a p:Int} {n:Nat} (hp:okP p) (hn:n<4611686018427387904):Ret Tryz.prog w0 217 [I a,I n,I p] (I (a^n%p)):=by
 intro H
 have c1:=mq2 (w0:=w0) (a:=a) (p:=p) hp
 obtain ⟨h1,h2⟩:=hp
 have hn0:¬(n:Int)<0:=by omega
 have g1:¬p<1:=by omega
 have g2:¬2147483647<p:=by omega
 have hp0:¬p=0:=by omega
 have t0:(1:Int).tmod p=1%p:=cqb (by omega)
 refine aqf Tryz.func217 rfl Tryz.ntmps217 (ts:=[6]) rfl (by simp) (by kernel_rfl) ?_
 repeat'(with_reducible first|(refine sp (hK _ _ ?_);clear hK K)|refine vr [] fun K hK=>?_|(refine vd [] [] mixed fun K hK=>?_)|((first|refine aqa fun K' hK'=>?_|refine aqb fun K' B hK' hB=>?_|refine aqn fun K' hK'=>?_|(apply aqk;refine aqe rfl fun K' hK'=>?_));simp[hn0,g1,g2,hp0,t0];repeat'(first|((first|refine hK' ?_|refine hB ?_);clear hK' hB K' B)|(apply hK';clear hK' K')|refine Ret.use c1 ?_|fail))|refine sp ?_|fail)
 refine aqi (fun env h=>∃ (m:Nat) (x o:Int),m<4611686018427387904/\env 1=I m/\env 8=I x/\env 7=I o/\env 2=I p/\(0<=x/\x<p)/\(0<=o/\o<p)/\(o*x^m)%p=a^n%p/\h=H) (fun env _=>natA (env 1)) ?_ ?_
 ·exact ⟨n,a%p,1%p,hn,by simp,by simp,by simp,by simp,⟨Int.emod_nonneg _ (by omega),Int.emod_lt_of_pos _ (by omega)⟩,⟨Int.emod_nonneg _ (by omega),Int.emod_lt_of_pos _ (by omega)⟩,by rw [dq0,Int.one_mul,gqa],rfl⟩
 rintro env h ⟨m,x,o,hml,e1,e0,e7,e2,hx,ho,hi,rfl⟩
 have hnat:natA (env 1)=m:=by simp [e1]
 rw [hnat];clear hnat
 by_cases hpos:0<m
 ·have an:(m:Int).tmod 2=((m%2:Nat):Int):=by rw [cqb (by omega)];omega
  have fd:(m:Int).tdiv 2=((m/2:Nat):Int):=by rw [Int.tdiv_eq_ediv_of_nonneg (by omega)];omega
  obtain ⟨b1,b2⟩:=hqt ho hx h2
  obtain ⟨b3,b4⟩:=hqt hx hx h2
  have t1:=cqb (p:=p) b1
  have t2:=cqb (p:=p) b3
  have hh:=pow_half x m
  have q1:=Int.emod_nonneg (o*x) (show p≠0 by omega)
  have q2:=Int.emod_lt_of_pos (o*x) (show 0<p by omega)
  have q3:=Int.emod_nonneg (x*x) (show p≠0 by omega)
  have q4:=Int.emod_lt_of_pos (x*x) (show 0<p by omega)
  have hml2:((m/2:Nat):Int)<=4611686018427387904:=by omega
  by_cases hodd:m%2=1
  ·rw [hodd] at an
   rw [if_pos hodd] at hh
   have hi':((o*x)%p*((x*x)%p)^(m/2))%p=a^n%p:=by
    rw [dq0,<-cqk,gqa,cqk,Int.mul_assoc,Int.mul_comm x,hh];exact hi
   repeat'(with_reducible first|(refine sp (hK _ _ ?_);clear hK K)|refine vr [] fun K hK=>?_|((first|refine aqa fun K' hK'=>?_|refine aqb fun K' B hK' hB=>?_);simp[e1,e0,e7,e2,hpos,an,fd,hp0,t1,t2];repeat'(first|((first|refine hK' ?_|refine hB ?_);clear hK' hB K' B)|(apply hK';clear hK' K')|refine And.intro ?_ ?_|(clear hK' K';omega)))|refine sp ?_|fail)
   all_goals first
    | omega
    | exact ⟨⟨m/2,_,_,by omega,by simp,by simp,by simp,by simp [e2],⟨q3,q4⟩,⟨q1,q2⟩,hi',rfl⟩,by simp;omega⟩
  ·have hev:m%2=0:=by omega
   rw [hev] at an
   rw [if_neg hodd,Int.mul_one] at hh
   have hi':(o*((x*x)%p)^(m/2))%p=a^n%p:=by
    rw [<-cqk,gqa,cqk,hh];exact hi
   repeat'(with_reducible first|(refine sp (hK _ _ ?_);clear hK K)|refine vr [] fun K hK=>?_|((first|refine aqa fun K' hK'=>?_|refine aqb fun K' B hK' hB=>?_);simp[e1,e0,e7,e2,hpos,an,fd,hp0,t1,t2];repeat'(first|((first|refine hK' ?_|refine hB ?_);clear hK' hB K' B)|(apply hK';clear hK' K')|refine And.intro ?_ ?_|(clear hK' K';omega)))|refine sp ?_|fail)
   all_goals first
    | omega
    | exact ⟨⟨m/2,_,_,by omega,by simp,by simp,by simp [e7],by simp [e2],⟨q3,q4⟩,ho,hi',rfl⟩,by simp;omega⟩
 ·have:m=0:=by omega
  subst this
  rw [Int.pow_zero,Int.mul_one,Int.emod_eq_of_lt ho.1 ho.2] at hi
  repeat'(with_reducible first|(refine sp (hK _ _ ?_);clear hK K)|refine vr [] fun K hK=>?_|((first|refine aqa fun K' hK'=>?_|refine aqb fun K' B hK' hB=>?_);simp[e1,e0,e7,e2];repeat'(first|((first|refine hK' ?_|refine hB ?_);clear hK' hB K' B)|(apply hK';clear hK' K')|fail))|apply aqc|refine sp ?_|fail)
  simp [hi]
theorem sq_mono {d e:Int} (h0:0<=d) (h:d<=e):d*d<=e*e:=Int.mul_le_mul h h h0 (by omega)
theorem lqj {p:Int} (hp:p<=100):Ret Tryz.prog w0 189 [I p] (B (bqg p)):=by
 intro H
 have g2:¬2147483647<p:=by omega
 refine aqf Tryz.func189 rfl Tryz.ntmps189 (ts:=[2]) rfl (by simp) (by kernel_rfl) ?_
 by_cases g1:p<2
 ·repeat'(with_reducible first|(refine aqd (hK _ _ ?_);clear hK K)|refine vr [] fun K hK=>?_|((first|refine aqa fun K' hK'=>?_|refine aqb fun K' B hK' hB=>?_|(apply aqk;refine aqe rfl fun K' hK'=>?_));simp[g1,g2];repeat'(first|((first|refine hK' ?_|refine hB ?_);clear hK' hB K' B)|(apply hK';clear hK' K')|fail))|apply aqc|refine sp ?_|fail)
  have:¬2<=p:=by omega
  simp [bqg,this]
 repeat'(with_reducible first|(refine aqd (hK _ _ ?_);clear hK K)|refine vr [] fun K hK=>?_|((first|refine aqa fun K' hK'=>?_|refine aqb fun K' B hK' hB=>?_|(apply aqk;refine aqe rfl fun K' hK'=>?_));simp[g1,g2];repeat'(first|((first|refine hK' ?_|refine hB ?_);clear hK' hB K' B)|(apply hK';clear hK' K')|fail))|refine sp ?_|fail)
 refine aqi (fun env h=>∃ d:Nat,2<=d/\d<=11/\(∀ e:Int,2<=e->e<d->¬p%e=0)/\env 3=I d/\env 0=I p/\h=H) (fun env _=>11-natA (env 3)) ?_ ?_
 ·exact ⟨2,by omega,by omega,fun e a b=>by omega,by simp,by simp,rfl⟩
 rintro env h ⟨d,hd,hd',hno,e3,e0,rfl⟩
 have hnat:natA (env 3)=d:=by simp [e3]
 rw [hnat];clear hnat
 have hdd:(d:Int)*d<=121:=by have:=sq_mono (d:=d) (e:=11) (by omega) (by omega);omega
 have hdd0:0<=(d:Int)*d:=Int.mul_nonneg (by omega) (by omega)
 have hd0:¬(d:Int)=0:=by omega
 have hd0':¬d=0:=by omega
 have tm:p.tmod d=p%d:=cqb (by omega)
 by_cases hlt:(d:Int)*d<=p
 ·have hd10:d<=10:=by
   apply Classical.byContradiction
   intro k
   have:=sq_mono (d:=11) (e:=d) (by omega) (by omega)
   omega
  by_cases hm:p%(d:Int)=0
  ·repeat'(with_reducible first|(refine aqd (hK _ _ ?_);clear hK K)|refine vr [] fun K hK=>?_|((first|refine aqa fun K' hK'=>?_|refine aqb fun K' B hK' hB=>?_);simp[e3,e0,hlt,hd0,hd0',tm,hm];repeat'(first|((first|refine hK' ?_|refine hB ?_);clear hK' hB K' B)|(apply hK';clear hK' K')|refine And.intro ?_ ?_|(clear hK' K';omega)))|apply aqc|refine sp ?_|fail)
   have:bqg p=false:=by
    rw [bqg,Bool.and_eq_false_iff]
    right
    rw [List.all_eq_false]
    exact ⟨d,aqq.2 (by omega),by simp [hlt,hm];omega⟩
   simp [this]
  ·repeat'(with_reducible first|(refine aqd (hK _ _ ?_);clear hK K)|refine vr [] fun K hK=>?_|((first|refine aqa fun K' hK'=>?_|refine aqb fun K' B hK' hB=>?_);simp[e3,e0,hlt,hd0,hd0',tm,hm];repeat'(first|((first|refine hK' ?_|refine hB ?_);clear hK' hB K' B)|(apply hK';clear hK' K')|refine And.intro ?_ ?_|(clear hK' K';omega)))|refine sp ?_|fail)
   refine ⟨⟨d+1,by omega,by omega,fun e a b=> ?_,by simp,by simp [e0],rfl⟩,by simp;omega⟩
   by_cases c:e=d
   ·subst c;exact hm
   ·exact hno e a (by omega)
 ·repeat'(with_reducible first|(refine aqd (hK _ _ ?_);clear hK K)|refine vr [] fun K hK=>?_|((first|refine aqa fun K' hK'=>?_|refine aqb fun K' B hK' hB=>?_);simp[e3,e0,hlt];repeat'(first|((first|refine hK' ?_|refine hB ?_);clear hK' hB K' B)|(apply hK';clear hK' K')|refine And.intro ?_ ?_|(clear hK' K';omega)))|apply aqc|refine sp ?_|fail)
  have:bqg p=true:=by
   rw [bqg,Bool.and_eq_true,decide_eq_true_eq,List.all_eq_true]
   refine ⟨by omega,fun e he=> ?_⟩
   have hr:=aqq.1 he
   by_cases c:2<=e/\e*e<=p
   ·have h1:e<d:=by
     apply Classical.byContradiction
     intro k
     have:=sq_mono (d:=d) (e:=e) (by omega) (by omega)
     omega
    simp [hno e c.1 h1]
   ·rcases Classical.not_and_iff_not_or_not.1 c with c | c<;>simp [c]
  simp [this]
theorem inv4_ret {a p:Int} (hp:p<=100) (h:bqg p=true) (ha:¬a%p=0):Ret Tryz.prog w0 203 [I a,I p] (.tup [I (a^(p-2).toNat%p),B true]):=by
 intro H
 have h2:2<=p:=by simp only [bqg,Bool.and_eq_true,decide_eq_true_eq] at h;exact h.1
 have c1:=lqj (w0:=w0) hp
 rw [h] at c1
 have c2:=mq2 (w0:=w0) (a:=a) (p:=p) ⟨by omega,by omega⟩
 have c3:=pow4_ret (w0:=w0) (a:=a) (p:=p) (n:=(p-2).toNat) ⟨by omega,by omega⟩ (by omega)
 rw [show (((p-2).toNat:Nat):Int)=p-2 by omega] at c3
 refine aqf Tryz.func203 rfl Tryz.ntmps203 (ts:=[4,5]) rfl (by simp) (by kernel_rfl) ?_
 repeat'(with_reducible first|(refine aqd (hK _ _ ?_);clear hK K)|refine vr [] fun K hK=>?_|((first|refine aqa fun K' hK'=>?_|refine aqb fun K' B hK' hB=>?_|(apply aqk;refine aqe rfl fun K' hK'=>?_));simp[ha];repeat'(first|((first|refine hK' ?_|refine hB ?_);clear hK' hB K' B)|(apply hK';clear hK' K')|refine Ret.use c1 ?_|refine Ret.use c2 ?_|refine Ret.use c3 ?_|refine And.intro ?_ ?_|(clear hK' K';omega)))|apply aqc|refine sp ?_|fail)
 all_goals first | omega | simp
theorem fermat:∀ p:Fin 101,bqg (p.1:Int)=true->∀ a:Fin 101,0<a.1->a.1<p.1->(a.1^(p.1-2)%p.1*a.1)%p.1=1:=by decide +kernel
theorem nqd {a p:Int} (hp:p<=100) (h:bqg p=true) (h0:0<a) (h1:a<p):(a^(p-2).toNat%p*a)%p=1:=by
 obtain ⟨P,rfl⟩:=Int.eq_ofNat_of_zero_le (show 0<=p by omega)
 obtain ⟨A,rfl⟩:=Int.eq_ofNat_of_zero_le (show 0<=a by omega)
 have:=fermat ⟨P,by omega⟩ h ⟨A,by omega⟩ (by simpa using h0) (by simpa using h1)
 simp only at this
 have e:((P:Int)-2).toNat=P-2:=by omega
 rw [e]
 exact_mod_cast this
theorem prime_div:∀ p:Fin 101,bqg (p.1:Int)=true->∀ x:Fin 101,p.1%x.1=0->x.1=1\/x.1=p.1:=by decide +kernel
def witL (p:Nat):Nat->Nat->Bool
 | 0,_=>true
 | k+1,x=>if x*x%p=p-1 then false else witL p k (x*x%p)
def witB (a d t p:Nat):Bool:=if a^d%p=1\/a^d%p=p-1\/a^d%p=0 then false else witL p (t-1) (a^d%p)
def mrL (p d t:Nat):List Nat->Bool
 | []=>true
 | a::l=>if p=a then true else if p%a=0\/witB a d t p=true then false else mrL p d t l
theorem mr_ok:∀ p:Fin 101,3<=p.1->p.1%2=1->∀ t:Fin 7,(p.1-1)%2^t.1=0->((p.1-1)/2^t.1)%2=1->mrL p.1 ((p.1-1)/2^t.1) t.1 [2,3,5,7]=bqg p.1:=by decide +kernel
theorem prime_even:∀ p:Fin 101,p.1%2=0->bqg (p.1:Int)=decide (p.1=2):=by decide +kernel
theorem wit_ret {a d t p:Nat} (hp:okP p) (hd:d<4611686018427387904) (ht:1<=t) (ht':t<=1000):Ret Tryz.prog w0 220 [I a,I d,I t,I p] (B (witB a d t p)):=by
 intro H
 have c1:=pow_ret (w0:=w0) (a:=a) (n:=d) hp hd
 obtain ⟨h1,h2⟩:=hp
 have e:(a:Int)^d%p=((a^d%p:Nat):Int):=by simp
 rw [e] at c1
 have hx:=Nat.mod_lt (a^d) (show 0<p by omega)
 have hw:witB a d t p=if a^d%p=1\/a^d%p=p-1\/a^d%p=0 then false else witL p (t-1) (a^d%p):=rfl
 generalize a^d%p=x at *
 refine aqf Tryz.func220 rfl Tryz.ntmps220 (ts:=[8]) rfl (by simp) (by kernel_rfl) ?_
 by_cases g:x=1\/x=p-1\/x=0
 ·rw [if_pos g] at hw
  repeat'(with_reducible first|(refine aqd (hK _ _ ?_);clear hK K)|refine vr [] fun K hK=>?_|((first|refine aqa fun K' hK'=>?_|refine aqb fun K' B hK' hB=>?_|(apply aqk;refine aqe rfl fun K' hK'=>?_));simp;repeat'(first|((first|refine hK' ?_|refine hB ?_);clear hK' hB K' B)|(apply hK';clear hK' K')|refine Ret.use c1 ?_|refine And.intro ?_ ?_|intro hg|(clear hK' K';omega)))|apply aqc|refine sp ?_|fail)
  all_goals first
   | (exfalso;omega)
   | simp [hw]
 ·rw [if_neg g] at hw
  have g1:¬(x:Int)=1:=by omega
  have g2:¬(x:Int)=(p:Int)-1:=by omega
  have g3:¬(x:Int)=0:=by omega
  have g4:¬x=1:=by omega
  have g5:¬x=0:=by omega
  repeat'(with_reducible first|(refine aqd (hK _ _ ?_);clear hK K)|refine vr [] fun K hK=>?_|((first|refine aqa fun K' hK'=>?_|refine aqb fun K' B hK' hB=>?_|(apply aqk;refine aqe rfl fun K' hK'=>?_));simp[g1,g2,g3,g4,g5];repeat'(first|((first|refine hK' ?_|refine hB ?_);clear hK' hB K' B)|(apply hK';clear hK' K')|refine Ret.use c1 ?_|refine And.intro ?_ ?_|(clear hK' K';omega)))|refine sp ?_|fail)
  refine aqi (fun env h=>∃ k y:Nat,k<=t-1/\y<p/\witL p (t-1-k) y=witB a d t p/\env 28=I k/\env 27=I ((t:Int)-1)/\env 9=I y/\env 3=I p/\h=H) (fun env _=>t-natA (env 28)) ?_ ?_
  ·exact ⟨0,x,by omega,hx,by rw [hw];rfl,by simp,by simp,by simp,by simp,rfl⟩
  rintro env h ⟨k,y,hk,hy,hi,e28,e27,e9,e3,rfl⟩
  have hnat:natA (env 28)=k:=by simp [e28]
  rw [hnat];clear hnat
  have hp0:¬(p:Int)=0:=by omega
  have hp0':¬p=0:=by omega
  obtain ⟨b1,b2⟩:=hqt (x:=y) (y:=y) (p:=p) ⟨by omega,by omega⟩ ⟨by omega,by omega⟩ h2
  have tm:((y:Int)*y).tmod p=((y*y%p:Nat):Int):=by rw [cqb b1];simp
  have hz:=Nat.mod_lt (y*y) (show 0<p by omega)
  by_cases hlt:k<t-1
  ·obtain ⟨q,hq⟩:∃ q,t-1-k=q+1:=⟨t-1-k-1,by omega⟩
   have hlt':(k:Int)<(t:Int)-1:=by omega
   rw [hq,witL] at hi
   generalize y*y%p=z at *
   by_cases c:z=p-1
   ·have c':((z:Int)=(p:Int)-1)=True:=by simp;omega
    rw [if_pos c] at hi
    repeat'(with_reducible first|(refine aqd (hK _ _ ?_);clear hK K)|refine vr [] fun K hK=>?_|((first|refine aqa fun K' hK'=>?_|refine aqb fun K' B hK' hB=>?_);simp[e28,e27,e9,e3,hlt',hp0,hp0',tm,c'];repeat'(first|((first|refine hK' ?_|refine hB ?_);clear hK' hB K' B)|(apply hK';clear hK' K')|refine And.intro ?_ ?_|(clear hK' K';omega)))|apply aqc|refine sp ?_|fail)
    all_goals first | omega | simp [<-hi]
   ·have c':¬(z:Int)=(p:Int)-1:=by omega
    rw [if_neg c] at hi
    repeat'(with_reducible first|(refine aqd (hK _ _ ?_);clear hK K)|refine vr [] fun K hK=>?_|((first|refine aqa fun K' hK'=>?_|refine aqb fun K' B hK' hB=>?_);simp[e28,e27,e9,e3,hlt',hp0,hp0',tm,c'];repeat'(first|((first|refine hK' ?_|refine hB ?_);clear hK' hB K' B)|(apply hK';clear hK' K')|refine And.intro ?_ ?_|(clear hK' K';omega)))|refine sp ?_|fail)
    all_goals first
     | omega
     | exact ⟨⟨k+1,z,by omega,hz,by rw [<-hi];congr 1;omega,by simp,by simp [e27],by simp,by simp [e3],rfl⟩,by simp;omega⟩
  ·have hlt':¬(k:Int)<(t:Int)-1:=by omega
   rw [show t-1-k=0 by omega,witL] at hi
   repeat'(with_reducible first|(refine aqd (hK _ _ ?_);clear hK K)|refine vr [] fun K hK=>?_|((first|refine aqa fun K' hK'=>?_|refine aqb fun K' B hK' hB=>?_);simp[e28,e27,e9,e3,hlt'];repeat'(first|((first|refine hK' ?_|refine hB ?_);clear hK' hB K' B)|(apply hK';clear hK' K')|fail))|apply aqc|refine sp ?_|fail)
   simp [<-hi]
theorem strip_ok {p d t:Nat} (hp:3<=p) (hp':p<=100) (hodd:p%2=1) (h:d*2^t=p-1) (hd:d%2=1):t<7/\1<=t/\mrL p d t [2,3,5,7]=bqg p:=by
 have h1:t<7:=by
  apply Classical.byContradiction
  intro k
  have h2:2^7<=2^t:=Nat.pow_le_pow_right (by omega) (by omega)
  have h3:1*2^t<=d*2^t:=Nat.mul_le_mul_right _ (by omega)
  omega
 have h2:1<=t:=by
  apply Classical.byContradiction
  intro k
  have:t=0:=by omega
  subst this
  omega
 have h3:(p-1)/2^t=d:=by rw [<-h];exact Nat.mul_div_cancel _ (Nat.pow_pos (by omega))
 have h4:(p-1)%2^t=0:=by rw [<-h];exact Nat.mul_mod_left _ _
 have:=mr_ok ⟨p,by omega⟩ hp hodd ⟨t,h1⟩ h4 (by rw [h3];exact hd)
 simp only [h3] at this
 exact ⟨h1,h2,this⟩
set_option maxHeartbeats 1000000 in
theorem prime_ret {p:Int} (hp:p<=100):Ret Tryz.prog w0 210 [I p] (B (bqg p)):=by
 intro H
 have g2:¬2147483647<p:=by omega
 refine aqf Tryz.func210 rfl Tryz.ntmps210 (ts:=[2]) rfl (by simp) (by kernel_rfl) ?_
 by_cases g1:p<2
 ·have h2:¬p=2:=by omega
  have h3:¬2<=p:=by omega
  repeat'(with_reducible first|(refine aqd (hK _ _ ?_);clear hK K)|refine vr [] fun K hK=>?_|((first|refine aqa fun K' hK'=>?_|refine aqb fun K' B hK' hB=>?_|(apply aqk;refine aqe rfl fun K' hK'=>?_));simp[g1,g2,h2];repeat'(first|((first|refine hK' ?_|refine hB ?_);clear hK' hB K' B)|(apply hK';clear hK' K')|fail))|apply aqc|refine sp ?_|fail)
  simp [bqg,h3]
 obtain ⟨P,rfl⟩:=Int.eq_ofNat_of_zero_le (show 0<=p by omega)
 have tm:(P:Int).tmod 2=((P%2:Nat):Int):=by rw [cqb (by omega)];omega
 by_cases g3:P%2=0
 ·rw [g3] at tm
  have:=prime_even ⟨P,by omega⟩ g3
  simp only at this
  repeat'(with_reducible first|(refine aqd (hK _ _ ?_);clear hK K)|refine vr [] fun K hK=>?_|((first|refine aqa fun K' hK'=>?_|refine aqb fun K' B hK' hB=>?_|(apply aqk;refine aqe rfl fun K' hK'=>?_));simp[g1,g2,tm];repeat'(first|((first|refine hK' ?_|refine hB ?_);clear hK' hB K' B)|(apply hK';clear hK' K')|fail))|apply aqc|refine sp ?_|fail)
  simp [this]
  try omega
 have hodd:P%2=1:=by omega
 rw [hodd] at tm
 repeat'(with_reducible first|(refine aqd (hK _ _ ?_);clear hK K)|refine vr [] fun K hK=>?_|((first|refine aqa fun K' hK'=>?_|refine aqb fun K' B hK' hB=>?_|(apply aqk;refine aqe rfl fun K' hK'=>?_));simp[g1,g2,tm];repeat'(first|((first|refine hK' ?_|refine hB ?_);clear hK' hB K' B)|(apply hK';clear hK' K')|refine And.intro ?_ ?_|(clear hK' K';omega)))|refine sp ?_|fail)
 refine aqi (fun env h=>∃ d t:Nat,1<=d/\d<=100/\t+d<=101/\d*2^t=P-1/\env 3=I d/\env 4=I t/\env 0=I P/\h=H) (fun env _=>natA (env 3)) ?_ ?_
 ·exact ⟨P-1,0,by omega,by omega,by omega,by simp,by simp;omega,by simp,by simp,rfl⟩
 rintro env h ⟨d,t,hd,hd',htd,he,e3,e4,e0,rfl⟩
 have hnat:natA (env 3)=d:=by simp [e3]
 rw [hnat];clear hnat
 have td:(d:Int).tmod 2=((d%2:Nat):Int):=by rw [cqb (by omega)];omega
 have qd:(d:Int).tdiv 2=((d/2:Nat):Int):=by rw [Int.tdiv_eq_ediv_of_nonneg (by omega)];omega
 by_cases g4:d%2=0
 ·rw [g4] at td
  repeat'(with_reducible first|(refine aqd (hK _ _ ?_);clear hK K)|refine vr [] fun K hK=>?_|((first|refine aqa fun K' hK'=>?_|refine aqb fun K' B hK' hB=>?_);simp[e3,e4,e0,td,qd];repeat'(first|((first|refine hK' ?_|refine hB ?_);clear hK' hB K' B)|(apply hK';clear hK' K')|refine And.intro ?_ ?_|(clear hK' K';omega)))|refine sp ?_|fail)
  all_goals first
   | omega
   | exact ⟨⟨d/2,t+1,by omega,by omega,by omega,by rw [<-he,Nat.pow_succ,Nat.mul_comm (2^t) 2,<-Nat.mul_assoc];congr 1;omega,by simp,by simp,by simp [e0],rfl⟩,by simp;omega⟩
 ·have hdo:d%2=1:=by omega
  rw [hdo] at td
  obtain ⟨s1,s2,s3⟩:=strip_ok (by omega) (by omega) hodd he hdo
  repeat'(with_reducible first|(refine aqd (hK _ _ ?_);clear hK K)|refine vr [] fun K hK=>?_|((first|refine aqa fun K' hK'=>?_|refine aqb fun K' B hK' hB=>?_);simp[e3,e4,e0,td,qd];repeat'(first|((first|refine hK' ?_|refine hB ?_);clear hK' hB K' B)|(apply hK';clear hK' K')|fail))|refine sp ?_|fail)
  refine aqi (fun env h'=>∃ k:Nat,k<=4/\mrL P d t ([2,3,5,7].drop k)=bqg P/\env 30=I k/\env 29= .agg [I 2,I 3,I 5,I 7]/\env 3=I d/\env 4=I t/\env 0=I P/\h'=h) (fun env _=>4-natA (env 30)) ?_ ?_
  ·exact ⟨0,by omega,s3,by simp,by simp,by simp [e3],by simp [e4],by simp [e0],rfl⟩
  clear e3 e4 e0
  rintro env h' ⟨k,hk,hi,e30,e29,e3,e4,e0,rfl⟩
  have hnat:natA (env 30)=k:=by simp [e30]
  rw [hnat];clear hnat
  by_cases hlt:k<4
  ·obtain ⟨a,ha1,ha2,ha3,ha4⟩:∃ a:Nat,[2,3,5,7].drop k=a::[2,3,5,7].drop (k+1)/\1<=a/\([I 2,I 3,I 5,I 7]:List AV)[k]? =some (I a)/\a<=7:=by
    rcases (show k=0\/k=1\/k=2\/k=3 by omega) with rfl | rfl | rfl | rfl
    ·exact ⟨2,rfl,by omega,rfl,by omega⟩
    ·exact ⟨3,rfl,by omega,rfl,by omega⟩
    ·exact ⟨5,rfl,by omega,rfl,by omega⟩
    ·exact ⟨7,rfl,by omega,rfl,by omega⟩
   have ha5:∀ h',([I 2,I 3,I 5,I 7]:List AV)[k]'h'=I a:=fun h'=>by rw [List.getElem?_eq_getElem h'] at ha3;simpa using ha3
   rw [ha1,mrL] at hi
   have ta:(P:Int).tmod a=((P%a:Nat):Int):=by rw [cqb (by omega)];simp
   have hlt':(k:Int)<4:=by omega
   have ha0:¬(a:Int)=0:=by omega
   have ha0':¬a=0:=by omega
   have cw:=wit_ret (w0:=w0) (a:=a) (d:=d) (t:=t) (p:=P) ⟨by omega,by omega⟩ (by omega) s2 (by omega)
   by_cases c1:P=a
   ·rw [if_pos c1] at hi
    have c1':(P:Int)=a:=by omega
    repeat'(with_reducible first|(refine aqd (hK _ _ ?_);clear hK K)|refine vr [] fun K hK=>?_|((first|refine aqa fun K' hK'=>?_|refine aqb fun K' B hK' hB=>?_);simp[e30,e29,e3,e4,e0,hlt,hlt',ha5,c1'];repeat'(first|((first|refine hK' ?_|refine hB ?_);clear hK' hB K' B)|(apply hK';clear hK' K')|fail))|apply aqc|refine sp ?_|fail)
    all_goals first | (exfalso;omega) | simp [<-hi]
   ·rw [if_neg c1] at hi
    have c1':¬(P:Int)=a:=by omega
    by_cases c2:P%a=0
    ·rw [if_pos (.inl c2)] at hi
     rw [c2] at ta
     repeat'(with_reducible first|(refine aqd (hK _ _ ?_);clear hK K)|refine vr [] fun K hK=>?_|((first|refine aqa fun K' hK'=>?_|refine aqb fun K' B hK' hB=>?_|(apply aqk;refine aqe rfl fun K' hK'=>?_));simp[e30,e29,e3,e4,e0,hlt,hlt',ha5,c1',c1,ta,ha0,ha0'];repeat'(first|((first|refine hK' ?_|refine hB ?_);clear hK' hB K' B)|(apply hK';clear hK' K')|fail))|apply aqc|refine sp ?_|fail)
     all_goals first | (exfalso;omega) | simp [<-hi]
    ·have c2':¬((P%a:Nat):Int)=0:=by omega
     cases hw:witB a d t P with
     | true=>
      rw [hw] at cw hi
      rw [if_pos (.inr rfl)] at hi
      generalize P%a=z at *
      repeat'(with_reducible first|(refine aqd (hK _ _ ?_);clear hK K)|refine vr [] fun K hK=>?_|((first|refine aqa fun K' hK'=>?_|refine aqb fun K' B hK' hB=>?_|(apply aqk;refine aqe rfl fun K' hK'=>?_));simp[e30,e29,e3,e4,e0,hlt,hlt',ha5,c1',c1,ta,ha0,ha0',c2,c2'];repeat'(first|((first|refine hK' ?_|refine hB ?_);clear hK' hB K' B)|(apply hK';clear hK' K')|refine Ret.use cw ?_|fail))|apply aqc|refine sp ?_|fail)
      all_goals first | (exfalso;omega) | simp [<-hi]
     | false=>
      rw [hw] at cw hi
      rw [if_neg (by rintro (k | k);exact c2 k;cases k)] at hi
      generalize P%a=z at *
      repeat'(with_reducible first|(refine aqd (hK _ _ ?_);clear hK K)|refine vr [] fun K hK=>?_|((first|refine aqa fun K' hK'=>?_|refine aqb fun K' B hK' hB=>?_|(apply aqk;refine aqe rfl fun K' hK'=>?_));simp[e30,e29,e3,e4,e0,hlt,hlt',ha5,c1',c1,ta,ha0,ha0',c2,c2'];repeat'(first|((first|refine hK' ?_|refine hB ?_);clear hK' hB K' B)|(apply hK';clear hK' K')|refine Ret.use cw ?_|refine And.intro ?_ ?_|(clear hK' K';omega)))|refine sp ?_|fail)
      all_goals first
       | (exfalso;omega)
       | exact ⟨⟨k+1,by omega,hi,by simp,by simp [e29],by simp [e3],by simp [e4],by simp [e0],rfl⟩,by simp;omega⟩
  ·have:k=4:=by omega
   subst this
   have hi':bqg P=true:=by rw [<-hi];rfl
   repeat'(with_reducible first|(refine aqd (hK _ _ ?_);clear hK K)|refine vr [] fun K hK=>?_|((first|refine aqa fun K' hK'=>?_|refine aqb fun K' B hK' hB=>?_);simp[e30,e29,e3,e4,e0];repeat'(first|((first|refine hK' ?_|refine hB ?_);clear hK' hB K' B)|(apply hK';clear hK' K')|fail))|apply aqc|refine sp ?_|fail)
   simp [hi']
theorem inv_uniq {a i j p:Int} (h1:p ∣ i*a-1) (h2:(j*a)%p=1):i%p=j%p:=by
 have h3:p ∣ j*a-1:=by
  have:=Int.emod_add_mul_ediv (j*a) p
  rw [h2] at this
  exact ⟨j*a/p,by omega⟩
 have h4:p ∣ i-j:=by
  have h5:p ∣ j*(i*a-1)-i*(j*a-1):=Int.dvd_sub (Int.dvd_mul_of_dvd_right h1) (Int.dvd_mul_of_dvd_right h3)
  rwa [show j*(i*a-1)-i*(j*a-1)=i-j by grind] at h5
 exact Int.emod_eq_emod_iff_emod_sub_eq_zero.2 (Int.emod_eq_zero_of_dvd h4)
theorem gcd_one {a p x:Int} (hp:p<=100) (h:bqg p=true) (h0:0<a) (h1:a<p) (hx:0<x) (hxp:x<=p) (d1:x ∣ a) (d2:x ∣ p):x=1:=by
 obtain ⟨P,rfl⟩:=Int.eq_ofNat_of_zero_le (show 0<=p by omega)
 obtain ⟨X,rfl⟩:=Int.eq_ofNat_of_zero_le (show 0<=x by omega)
 have hm:P%X=0:=by have:=Int.emod_eq_zero_of_dvd d2;omega
 rcases prime_div ⟨P,by omega⟩ h ⟨X,by omega⟩ hm with e | e
 ·simp only at e;omega
 ·simp only at e
  have:=Int.le_of_dvd h0 d1
  omega
set_option maxHeartbeats 1000000 in
theorem inv_ret {a p:Int} (hp:p<=100) (h:bqg p=true) (h0:0<a) (h1:a<p):Ret Tryz.prog w0 227 [I a,I p] (.tup [I (a^(p-2).toNat%p),B true]):=by
 intro H
 have h2:2<=p:=by simp only [bqg,Bool.and_eq_true,decide_eq_true_eq] at h;exact h.1
 have c1:=prime_ret (w0:=w0) hp
 rw [h] at c1
 have ham:a%p=a:=Int.emod_eq_of_lt (by omega) h1
 have c2:=gqx (w0:=w0) (a:=a) (p:=p) ⟨by omega,by omega⟩
 rw [ham] at c2
 have ha0:¬a=0:=by omega
 refine aqf Tryz.func227 rfl Tryz.ntmps227 (ts:=[4,5]) rfl (by simp) (by kernel_rfl) ?_
 repeat'(with_reducible first|(refine aqd (hK _ _ ?_);clear hK K)|refine vr [] fun K hK=>?_|((first|refine aqa fun K' hK'=>?_|refine aqb fun K' B hK' hB=>?_|(apply aqk;refine aqe rfl fun K' hK'=>?_));simp[ha0];repeat'(first|((first|refine hK' ?_|refine hB ?_);clear hK' hB K' B)|(apply hK';clear hK' K')|refine Ret.use c1 ?_|refine Ret.use c2 ?_|fail))|refine sp ?_|fail)
 refine aqi (fun env h=>∃ x y u v U V:Int,env 6=I x/\env 7=I y/\env 8=I u/\env 9=I v/\env 1=I p/\0<x/\0<=y/\x<=p/\y<=p/\0<=U/\0<=V/\(u=U/\v= -V\/u= -U/\v=V)/\U*y+V*x=p/\
   p ∣ u*a-x/\p ∣ v*a-y/\(∀ d:Int,d ∣ x->d ∣ y->d ∣ a/\d ∣ p)/\h=H) (fun env _=>natA (env 7)) ?_ ?_
 ·exact ⟨a,p,1,0,1,0,by simp,by simp,by simp,by simp,by simp,h0,by omega,by omega,by omega,by omega,by omega,.inl ⟨rfl,rfl⟩,by omega,by simp,by simp,fun d a b=>⟨a,b⟩,rfl⟩
 rintro env h' ⟨x,y,u,v,U,V,e6,e7,e8,e9,e1,hx,hy,hxp,hyp,hU,hV,hs,hi,hu,hv,hd,rfl⟩
 have hnat:natA (env 7)=y.toNat:=by simp [e7]
 rw [hnat];clear hnat
 by_cases hy0:y=0
 ·subst hy0
  obtain ⟨d1,d2⟩:=hd x (Int.dvd_refl x) (Int.dvd_zero x)
  have hx1:=gcd_one hp h h0 h1 hx hxp d1 d2
  subst hx1
  have c3:=gqx (w0:=w0) (a:=u) (p:=p) ⟨by omega,by omega⟩
  rw [inv_uniq hu (nqd hp h h0 h1),Int.emod_emod_of_dvd _ (Int.dvd_refl p)] at c3
  repeat'(with_reducible first|(refine aqd (hK _ _ ?_);clear hK K)|refine vr [] fun K hK=>?_|((first|refine aqa fun K' hK'=>?_|refine aqb fun K' B hK' hB=>?_);simp[e6,e7,e8,e9,e1];repeat'(first|((first|refine hK' ?_|refine hB ?_);clear hK' hB K' B)|(apply hK';clear hK' K')|refine Ret.use c3 ?_|fail))|apply aqc|refine sp ?_|fail)
  simp
 ·have hq:x.tdiv y=x/y:=Int.tdiv_eq_ediv_of_nonneg (by omega)
  have hmod:=Int.emod_add_mul_ediv x y
  have hm0:=Int.emod_nonneg x hy0
  have hm1:=Int.emod_lt_of_pos x (show 0<y by omega)
  have hq0:0<=x/y:=Int.ediv_nonneg (by omega) hy
  have hqx:x/y<=x:=Int.ediv_le_self _ (by omega)
  have hyn:(y==0)=false:=by simpa using hy0
  generalize hz:x%y=z at *
  generalize x/y=q at *
  have hx':x-q*y=z:=by rw [Int.mul_comm];omega
  have hqy:0<=q*y:=Int.mul_nonneg hq0 hy
  have hqV:0<=q*V:=Int.mul_nonneg hq0 hV
  have hUy:0<=U*y:=Int.mul_nonneg hU hy
  have hVx:0<=V*x:=Int.mul_nonneg hV (by omega)
  have hqV':q*V<=p:=by
   have:q*V<=x*V:=Int.mul_le_mul_of_nonneg_right hqx hV
   rw [Int.mul_comm x V] at this
   omega
  have hUp:U<=p:=by
   have:U*1<=U*y:=Int.mul_le_mul_of_nonneg_left (by omega) hU
   omega
  have hVp:V<=p:=by
   have:V*1<=V*x:=Int.mul_le_mul_of_nonneg_left (by omega) hV
   omega
  have hinv:V*z+(U+q*V)*y=p:=by
   rw [<-hx',<-hi];grind
  have hdv:p ∣ (u-q*v)*a-z:=by
   have hv':p ∣ q*(v*a-y):=Int.dvd_mul_of_dvd_right hv
   have:=Int.dvd_sub hu hv'
   rwa [show u*a-x-q*(v*a-y)=(u-q*v)*a-z by rw [<-hx'];grind] at this
  have hdd:∀ d:Int,d ∣ y->d ∣ z->d ∣ a/\d ∣ p:=fun d k1 k2=>by
   refine hd d ?_ k1
   rw [show x=z+q*y by omega]
   exact Int.dvd_add k2 (Int.dvd_mul_of_dvd_right k1)
  rcases hs with ⟨hs1,hs2⟩ | ⟨hs1,hs2⟩
  ·have hqv:q*v= - (q*V):=by rw [hs2];grind
   generalize hw:q*v=w at *
   generalize q*V=W at *
   have q1:0<y:=by omega
   have q2:z<=p:=by omega
   have q3:0<=U+W:=by omega
   have q4:(v=V/\u-w= -(U+W))\/(v= -V/\u-w=U+W):= .inr ⟨hs2,by omega⟩
   repeat'(with_reducible first|(refine aqd (hK _ _ ?_);clear hK K)|refine vr [] fun K hK=>?_|((first|refine aqa fun K' hK'=>?_|refine aqb fun K' B hK' hB=>?_);simp[e6,e7,e8,e9,e1,hy0,hq,hx',hw];repeat'(first|((first|refine hK' ?_|refine hB ?_);clear hK' hB K' B)|(apply hK';clear hK' K')|refine And.intro ?_ ?_|(clear hK' K';omega)))|refine sp ?_|fail)
   all_goals first
    | omega
    | exact ⟨⟨y,z,v,u-w,V,U+W,by simp,by simp,by simp,by simp,by simp [e1],q1,hm0,hyp,q2,hV,q3,q4,hinv,hv,hdv,hdd,rfl⟩,by simp;omega⟩
  ·have hqv:q*v=q*V:=by rw [hs2]
   generalize hw:q*v=w at *
   generalize q*V=W at *
   have q1:0<y:=by omega
   have q2:z<=p:=by omega
   have q3:0<=U+W:=by omega
   have q4:(v=V/\u-w= -(U+W))\/(v= -V/\u-w=U+W):= .inl ⟨hs2,by omega⟩
   repeat'(with_reducible first|(refine aqd (hK _ _ ?_);clear hK K)|refine vr [] fun K hK=>?_|((first|refine aqa fun K' hK'=>?_|refine aqb fun K' B hK' hB=>?_);simp[e6,e7,e8,e9,e1,hy0,hq,hx',hw];repeat'(first|((first|refine hK' ?_|refine hB ?_);clear hK' hB K' B)|(apply hK';clear hK' K')|refine And.intro ?_ ?_|(clear hK' K';omega)))|refine sp ?_|fail)
   all_goals first
    | omega
    | exact ⟨⟨y,z,v,u-w,V,U+W,by simp,by simp,by simp,by simp,by simp [e1],q1,hm0,hyp,q2,hV,q3,q4,hinv,hv,hdv,hdd,rfl⟩,by simp;omega⟩
end Go.Am
namespace Go.Am
set_option linter.unusedVariables false
set_option linter.unusedSimpArgs false
section
variable {p:Int} {n:Nat}
def Zv (p:Int) (n:Nat) (v:Nat->Int):Prop:=∀ i,i<n->p ∣ v i
inductive Ech (p:Int) (n:Nat):List (Nat×(Nat->Int))->Prop
 | nil:Ech p n []
 | cons {r:Nat} {x:Nat->Int} {l:List (Nat×(Nat->Int))} (hr:r<n) (hu:∃ b,p ∣ x r*b-1) (h0:∀ s∈l,p ∣ s.2 r) (hl:Ech p n l):Ech p n ((r,x)::l)
def vecsOf (l:List (Nat×(Nat->Int))):(Nat->Int)->Prop:=fun u=>∃ s∈l,u=s.2
theorem spn_row {S:(Nat->Int)->Prop} {r:Nat} (hr:r<n) (h0:∀ u,S u->p ∣ u r) {v:Nat->Int} (h:Spn p n S v):p ∣ v r:=by
 induction h with
 | zero h=>exact h r hr
 | @add v' u v c hv hu h ih=>exact Spn.dv (Int.dvd_add ih (Int.dvd_mul_of_dvd_right (b:=c) (h0 u hu))) (h r hr) (by omega)
theorem ech_zero {l:List (Nat×(Nat->Int))} (h:Ech p n l) {v:Nat->Int} (hv:Spn p n (vecsOf l) v) (h0:∀ s∈l,p ∣ v s.1):Zv p n v:=by
 induction h generalizing v with
 | nil=>
  generalize hS:vecsOf []=S at hv
  cases hv with
  | zero h=>exact h
  | add c hv hu h=>subst hS;obtain ⟨s,hs,_⟩:=hu;cases hs
 | @cons r x l hr hu hz hl ih=>
  obtain ⟨c,hc⟩:=Spn.split (x:=x) (S:=vecsOf l) (hv.mono fun u ⟨s,hs,e⟩=>by
   rcases List.mem_cons.1 hs with rfl | hs
   ·exact .inl e
   ·exact .inr ⟨s,hs,e⟩)
  have h1:=spn_row hr (fun u ⟨s,hs,e⟩=>by rw [e];exact hz s hs) hc
  have h2:=h0 (r,x) (by simp)
  obtain ⟨b,hb⟩:=hu
  have hc0:p ∣ c:=by
   have h3:p ∣ c*x r:=by have:=Int.dvd_sub h2 h1;rwa [show v r-(v r-c*x r)=c*x r by omega] at this
   have h4:=Int.dvd_sub (Int.dvd_mul_of_dvd_left (c:=b) h3) (Int.dvd_mul_of_dvd_right (b:=c) hb)
   rwa [show c*x r*b-c*(x r*b-1)=c by grind] at h4
  refine ih (hc.cong fun i hi=> ?_) fun s hs=>h0 s (by simp [hs])
  have:=Int.dvd_mul_of_dvd_left (c:=x i) hc0
  rwa [show v i-(v i-c*x i)=c*x i by omega]
theorem ech_snoc {l:List (Nat×(Nat->Int))} (h:Ech p n l) {r:Nat} {x:Nat->Int} (hr:r<n) (hu:∃ b,p ∣ x r*b-1) (h0:∀ s∈l,p ∣ x s.1):Ech p n (l++[(r,x)]):=by
 induction h with
 | nil=>exact .cons hr hu (by simp) .nil
 | @cons r' x' l hr' hu' hz hl ih=>
  refine .cons hr' hu' (fun s hs=> ?_) (ih fun s hs=>h0 s (by simp [hs]))
  rcases List.mem_append.1 hs with hs | hs
  ·exact hz s hs
  ·rw [List.mem_singleton.1 hs];exact h0 (r',x') (by simp)
def mql (p:Int) (n:Nat) (cols:List (List Int)) (i:Nat):Prop:=Spn p n (fun u=>∃ y∈cols.take i,u=vec y) (vec (cols.getD i []))
open Classical in
noncomputable def accL (p:Int) (n:Nat) (cols:List (List Int)):List Int:=(upto cols.length).filter fun i=> !decide (mql p n cols i.toNat)
theorem before_app {cols:List (List Int)} {c:List Int} {i:Nat} (h:i<cols.length):mql p n (cols++[c]) i↔mql p n cols i:=by
 unfold mql
 rw [List.take_append_of_le_length (by omega)]
 have:(cols++[c]).getD i []=cols.getD i []:=by simp [List.getD_eq_getElem?_getD,List.getElem?_append_left h]
 rw [this]
theorem before_last {cols:List (List Int)} {c:List Int}:mql p n (cols++[c]) cols.length↔Spn p n (fun u=>∃ y∈cols,u=vec y) (vec c):=by
 unfold mql
 simp
open Classical in
theorem kqz (cols:List (List Int)) (c:List Int):accL p n (cols++[c])=accL p n cols++if Spn p n (fun u=>∃ y∈cols,u=vec y) (vec c) then [] else [(cols.length:Int)]:=by
 unfold accL
 rw [List.length_append,List.length_singleton,dqw,List.filter_append]
 congr 1
 ·refine List.filter_congr fun i hi=> ?_
  have:=aqq.1 hi
  rw [decide_eq_decide.2 (before_app (c:=c) (by omega))]
 ·rw [List.filter_cons,List.filter_nil]
  have:=before_last (p:=p) (n:=n) (cols:=cols) (c:=c)
  rw [show ((cols.length:Nat):Int).toNat=cols.length by omega]
  by_cases k:Spn p n (fun u=>∃ y∈cols,u=vec y) (vec c)
  ·rw [if_pos k,decide_eq_true (this.2 k)];rfl
  ·rw [if_neg k,decide_eq_false fun k'=>k (this.1 k')];rfl
theorem jqv (hinv:∀ a:Int,¬p ∣ a->∃ b,p ∣ a*b-1) (cols:List (List Int)) (l:List Int):(∀ x∈l,0<=x/\x<cols.length)->
  (accL p n (l.map fun x=>cols.getD x.toNat [])).length=Clo.rk (LinC p n cols) (FS.ofList l):=by
 refine eq3 (p:=fun l:List Int=>(∀ x∈l,0<=x/\x<cols.length)->(accL p n (l.map fun x=>cols.getD x.toNat [])).length=Clo.rk (LinC p n cols) (FS.ofList l)) ?_ ?_ l
 ·intro _;rfl
 ·intro l x ih h
  have hl:∀ y∈l,0<=y/\y<cols.length:=fun y hy=>h y (by simp [hy])
  have hx:=h x (by simp)
  have e1:=ih hl
  rw [List.map_append,List.map_singleton,kqz,List.length_append,e1]
  have e2:FS.ofList (l++[x])=insert x (FS.ofList l):=FS.ext fun y=>by simp;exact Or.comm
  rw [e2]
  have e3:LinC p n cols (FS.ofList l) x↔Spn p n (fun u=>∃ y∈l.map (fun x=>cols.getD x.toNat []),u=vec y) (vec (cols.getD x.toNat [])):=by
   constructor
   ·intro k
    refine (k hx).mono fun u ⟨y,hy,_,e⟩=>⟨_,List.mem_map.2 ⟨y,by simpa using hy,rfl⟩,e⟩
   ·intro k _
    refine k.mono fun u ⟨y,hy,e⟩=> ?_
    obtain ⟨z,hz,rfl⟩:=List.mem_map.1 hy
    exact ⟨z,by simpa using hz,hl z hz,e⟩
  by_cases k:LinC p n cols (FS.ofList l) x
  ·rw [(linC hinv cols).rk_in k,if_pos (e3.1 k)];rfl
  ·rw [(linC hinv cols).rk_out k,if_neg fun k'=>k (e3.2 k')];rfl
theorem acc_span (hinv:∀ a:Int,¬p ∣ a->∃ b,p ∣ a*b-1) {U V:List (List Int)} (h1:∀ u∈U,Spn p n (fun u=>∃ y∈V,u=vec y) (vec u)) (h2:∀ v∈V,Spn p n (fun u=>∃ y∈U,u=vec y) (vec v)):
  (accL p n U).length=(accL p n V).length:=by
 have getU:∀ i:Int,0<=i->i<U.length->(U++V).getD i.toNat []=U.getD i.toNat []:=fun i a b=>by
  simp [List.getD_eq_getElem?_getD,List.getElem?_append_left (show i.toNat<U.length by omega)]
 have mapU:(upto U.length).map (fun x=>(U++V).getD x.toNat [])=U:=by
  refine List.ext_getElem (by simp) fun i a b=> ?_
  rw [List.getElem_map,cqm,getU _ (by omega) (by omega),Int.toNat_natCast,List.getD_eq_getElem?_getD,List.getElem?_eq_getElem b]
  rfl
 have mapV:((upto V.length).map (· + (U.length:Int))).map (fun x=>(U++V).getD x.toNat [])=V:=by
  refine List.ext_getElem (by simp) fun i a b=> ?_
  rw [List.getElem_map,List.getElem_map,cqm,show ((i:Int)+U.length).toNat=U.length+i by omega,List.getD_eq_getElem?_getD,List.getElem?_append_right (by omega),show U.length+i-U.length=i by omega,List.getElem?_eq_getElem b]
  rfl
 have c:=linC (n:=n) hinv (U++V)
 have rU:=jqv (n:=n) hinv (U++V) (upto U.length) (fun x hx=>by have:=aqq.1 hx;simp;omega)
 have rV:=jqv (n:=n) hinv (U++V) ((upto V.length).map (· + (U.length:Int))) (fun x hx=>by
  obtain ⟨y,hy,rfl⟩:=List.mem_map.1 hx
  have:=aqq.1 hy
  simp
  omega)
 rw [mapU] at rU
 rw [mapV] at rV
 rw [rU,rV]
 have hR:=c.rank
 generalize hA:FS.ofList (upto U.length)=A at *
 generalize hB:FS.ofList ((upto V.length).map (· + (U.length:Int)))=B at *
 have memA:∀ x,x∈A↔0<=x/\x<U.length:=fun x=>by rw [<-hA,FS.mem_ofList,aqq]
 have memB:∀ x,x∈B↔(U.length:Int)<=x/\x<U.length+V.length:=fun x=>by
  rw [<-hB,FS.mem_ofList,List.mem_map]
  constructor
  ·rintro ⟨y,hy,rfl⟩;have:=aqq.1 hy;omega
  ·intro h;exact ⟨x-U.length,aqq.2 (by omega),by omega⟩
 have colA:∀ x,0<=x->x<(U.length:Int)->∃ u∈U,colF (U++V) x=vec u:=fun x a b=>by
  have hi:x.toNat<U.length:=by omega
  refine ⟨U[x.toNat],List.getElem_mem _,?_⟩
  rw [colF,getU x a b,List.getD_eq_getElem?_getD,List.getElem?_eq_getElem hi];rfl
 have colB:∀ x,(U.length:Int)<=x->x<(U.length:Int)+V.length->∃ v∈V,colF (U++V) x=vec v:=fun x a b=>by
  have hi:x.toNat-U.length<V.length:=by omega
  refine ⟨V[x.toNat-U.length],List.getElem_mem _,?_⟩
  rw [colF,List.getD_eq_getElem?_getD,List.getElem?_append_right (by omega),List.getElem?_eq_getElem hi];rfl
 have idxA:∀ u∈U,∃ x,x∈A/\(0<=x/\x<((U++V).length:Nat))/\vec u=colF (U++V) x:=fun u hu=>by
  obtain ⟨i,hi,rfl⟩:=List.mem_iff_getElem.1 hu
  refine ⟨i,(memA _).2 (by omega),by simp;omega,?_⟩
  rw [colF,getU _ (by omega) (by omega),Int.toNat_natCast,List.getD_eq_getElem?_getD,List.getElem?_eq_getElem hi];rfl
 have idxB:∀ v∈V,∃ x,x∈B/\(0<=x/\x<((U++V).length:Nat))/\vec v=colF (U++V) x:=fun u hu=>by
  obtain ⟨i,hi,rfl⟩:=List.mem_iff_getElem.1 hu
  refine ⟨(U.length+i:Nat),(memB _).2 (by omega),by simp;omega,?_⟩
  rw [colF,Int.toNat_natCast,List.getD_eq_getElem?_getD,List.getElem?_append_right (by omega),show U.length+i-U.length=i by omega,List.getElem?_eq_getElem hi];rfl
 have hBA:∀ x,x∈B->LinC p n (U++V) A x:=fun x hx hr=>by
  obtain ⟨a,b⟩:=(memB x).1 hx
  obtain ⟨v,hv,e⟩:=colB x a b
  rw [e]
  exact (h2 v hv).mono fun u ⟨y,hy,e⟩=>by
   obtain ⟨z,a,b,c⟩:=idxA y hy
   exact ⟨z,a,b,e.trans c⟩
 have hAB:∀ x,x∈A->LinC p n (U++V) B x:=fun x hx hr=>by
  obtain ⟨a,b⟩:=(memA x).1 hx
  obtain ⟨v,hv,e⟩:=colA x a b
  rw [e]
  exact (h1 v hv).mono fun u ⟨y,hy,e⟩=>by
   obtain ⟨z,a,b,c⟩:=idxB y hy
   exact ⟨z,a,b,e.trans c⟩
 have e1:=hR.cl_union (a:=A) (b:=B) fun x hx=>c.rk_in (hBA x hx)
 have e2:=hR.cl_union (a:=B) (b:=A) fun x hx=>c.rk_in (hAB x hx)
 rw [show B∪A=A∪B from FS.ext fun x=>by simp;exact Or.comm] at e2
 omega
theorem acc_ech (l:List (Nat×List Int)):Ech p n (l.map fun s=>(s.1,vec s.2))->(∀ s∈l,¬Zv p n (vec s.2))->accL p n (l.map (·.2))=upto l.length:=by
 refine eq3 (p:=fun l=>Ech p n (l.map fun s=>(s.1,vec s.2))->(∀ s∈l,¬Zv p n (vec s.2))->accL p n (l.map (·.2))=upto l.length) (fun _ _=>rfl) ?_ l
 intro l s ih h hz
 have pre:∀ (l m:List (Nat×(Nat->Int))),Ech p n (l++m)->Ech p n l/\∀ s∈l,∀ t∈m,p ∣ t.2 s.1:=by
  intro l m
  induction l with
  | nil=>intro _;exact ⟨.nil,by simp⟩
  | cons a l ih2=>
   intro h
   obtain ⟨r,x⟩:=a
   cases h with
   | cons hr hu h0 hl=>
    obtain ⟨i1,i2⟩:=ih2 hl
    refine ⟨.cons hr hu (fun s hs=>h0 s (by simp [hs])) i1,fun s hs t ht=> ?_⟩
    rcases List.mem_cons.1 hs with rfl | hs
    ·exact h0 t (by simp [ht])
    ·exact i2 s hs t ht
 rw [List.map_append] at h
 obtain ⟨h1,h2⟩:=pre _ _ h
 rw [List.map_append,List.map_singleton,kqz,ih h1 fun t ht=>hz t (by simp [ht]),if_neg,List.length_append,List.length_singleton,dqw,List.length_map]
 intro k
 refine hz s (by simp) (ech_zero h1 (k.mono fun u ⟨y,hy,e⟩=> ?_) fun t ht=>h2 t ht (s.1,vec s.2) (by simp))
 obtain ⟨t,ht,rfl⟩:=List.mem_map.1 hy
 exact ⟨_,List.mem_map.2 ⟨t,ht,rfl⟩,e⟩
end
section
variable {p:Int} {n:Nat}
def subV (p k:Int) (c x:List Int):List Int:=List.zipWith (fun a b=>(a-k*b)%p) c x
def redS (p:Int) (s:Nat×List Int) (c:List Int):List Int:=if c.getD s.1 0=0 then c else subV p (c.getD s.1 0) c s.2
def redL (p:Int) (st:List (Nat×List Int)) (c:List Int):List Int:=st.foldl (fun c s=>redS p s c) c
structure gq8 (p:Int) (n:Nat) (c:List Int):Prop where
 len:c.length=n
 bnd:∀ i,i<n->0<=c.getD i 0/\c.getD i 0<p
theorem eq1 {k:Int} {c x:List Int} (hc:c.length=n) (hx:x.length=n):(subV p k c x).length=n:=by simp [subV,hc,hx]
theorem gqt {k:Int} {c x:List Int} {i:Nat} (hc:c.length=n) (hx:x.length=n) (hi:i<n):(subV p k c x).getD i 0=(c.getD i 0-k*x.getD i 0)%p:=by
 have h1:i<c.length:=by omega
 have h2:i<x.length:=by omega
 simp [subV,List.getD_eq_getElem?_getD,List.getElem?_zipWith,List.getElem?_eq_getElem h1,List.getElem?_eq_getElem h2]
theorem subV_ok (hp:0<p) {k:Int} {c x:List Int} (hc:c.length=n) (hx:x.length=n):gq8 p n (subV p k c x):=
 ⟨eq1 hc hx,fun i hi=>by rw [gqt hc hx hi];exact ⟨Int.emod_nonneg _ (by omega),Int.emod_lt_of_pos _ hp⟩⟩
theorem nqq (a p:Int):p ∣ a-a%p:=by
 have:=Int.emod_add_mul_ediv a p
 exact ⟨a/p,by omega⟩
theorem subV_spn {k:Int} {c x:List Int} (hc:c.length=n) (hx:x.length=n) (i:Nat) (hi:i<n):p ∣ vec c i-(vec (subV p k c x) i+k*vec x i):=by
 simp only [vec]
 rw [gqt hc hx hi]
 have:=nqq (c.getD i 0-k*x.getD i 0) p
 rwa [show c.getD i 0-((c.getD i 0-k*x.getD i 0)%p+k*x.getD i 0)=c.getD i 0-k*x.getD i 0-(c.getD i 0-k*x.getD i 0)%p by omega]
structure StOK (p:Int) (n:Nat) (st:List (Nat×List Int)):Prop where
 ok:∀ s∈st,s.1<n/\gq8 p n s.2/\s.2.getD s.1 0=1
 ord:st.Pairwise fun s t=>t.2.getD s.1 0=0
def dqm (st:List (Nat×List Int)):(Nat->Int)->Prop:=fun u=>∃ s∈st,u=vec s.2
theorem StOK.ech {st:List (Nat×List Int)} (h:StOK p n st):Ech p n (st.map fun s=>(s.1,vec s.2)):=by
 obtain ⟨h1,h2⟩:=h
 induction st with
 | nil=>exact .nil
 | cons s st ih=>
  rw [List.pairwise_cons] at h2
  obtain ⟨a,b,c⟩:=h1 s (by simp)
  refine .cons a ⟨1,by simp only [vec];rw [c];simp⟩ (fun t ht=> ?_) (ih (fun t ht=>h1 t (by simp [ht])) h2.2)
  obtain ⟨t',ht',rfl⟩:=List.mem_map.1 ht
  simp only [vec]
  rw [h2.1 t' ht']
  exact Int.dvd_zero p
structure RedI (p:Int) (n:Nat) (all done:List (Nat×List Int)) (c0 c:List Int):Prop where
 ok:gq8 p n c
 zero:∀ s∈done,c.getD s.1 0=0
 spn:Spn p n (dqm all) (fun i=>vec c0 i-vec c i)
theorem RedI.start {all:List (Nat×List Int)} {c:List Int} (h:gq8 p n c):RedI p n all [] c c:=⟨h,by simp,.zero fun i _=>by simp⟩
theorem RedI.step {done rest:List (Nat×List Int)} {s:Nat×List Int} {c0 c:List Int} (hp:0<p) (hs:StOK p n (done++s::rest)) (h:RedI p n (done++s::rest) done c0 c):RedI p n (done++s::rest) (done++[s]) c0 (redS p s c):=by
 obtain ⟨s1,s2,s3⟩:=hs.ok s (by simp)
 rw [redS]
 split
 ·rename_i e
  refine ⟨h.ok,fun t ht=> ?_,h.spn⟩
  rcases List.mem_append.1 ht with ht | ht
  ·exact h.zero t ht
  ·rw [List.mem_singleton.1 ht];exact e
 ·rename_i e
  refine ⟨subV_ok hp h.ok.len s2.len,fun t ht=> ?_,?_⟩
  ·rcases List.mem_append.1 ht with ht | ht
   ·have ho:=(List.pairwise_append.1 hs.ord).2.2 t ht s (by simp)
    rw [gqt h.ok.len s2.len (hs.ok t (by simp [ht])).1,h.zero t ht,ho]
    simp
   ·rw [List.mem_singleton.1 ht,gqt h.ok.len s2.len s1,s3]
    simp
  ·refine .add (c.getD s.1 0) h.spn ⟨s,by simp,rfl⟩ fun i hi=> ?_
   have:=subV_spn (p:=p) (k:=c.getD s.1 0) h.ok.len s2.len i hi
   rwa [show vec c0 i-vec (subV p (c.getD s.1 0) c s.2) i-(vec c0 i-vec c i+c.getD s.1 0*vec s.2 i)=vec c i-(vec (subV p (c.getD s.1 0) c s.2) i+c.getD s.1 0*vec s.2 i) by omega]
theorem redL_snoc (st:List (Nat×List Int)) (s:Nat×List Int) (c:List Int):redL p (st++[s]) c=redS p s (redL p st c):=by simp [redL]
theorem red_ok (hp:0<p) {st:List (Nat×List Int)} (hs:StOK p n st) {c:List Int} (hc:gq8 p n c):∀ k,k<=st.length->RedI p n st (st.take k) c (redL p (st.take k) c):=by
 intro k
 induction k with
 | zero=>intro _;exact .start hc
 | succ k ih=>
  intro hk
  have e:st=st.take k++st[k]::st.drop (k+1):=by rw [List.getElem_cons_drop,List.take_append_drop]
  have h1:=ih (by omega)
  rw [List.take_succ_eq_append_getElem (by omega),redL_snoc]
  have h2:=RedI.step (p:=p) (n:=n) (done:=st.take k) (s:=st[k]) (rest:=st.drop (k+1)) (c0:=c) (c:=redL p (st.take k) c) hp (by rw [<-e];exact hs) (by rw [<-e];exact h1)
  rwa [<-e] at h2
theorem red_all (hp:0<p) {st:List (Nat×List Int)} (hs:StOK p n st) {c:List Int} (hc:gq8 p n c):RedI p n st st c (redL p st c):=by
 have:=red_ok hp hs hc st.length (Nat.le_refl _)
 rwa [List.take_length] at this
theorem red_iff (hp:0<p) {st:List (Nat×List Int)} (hs:StOK p n st) {c:List Int} (hc:gq8 p n c):(∀ i,i<n->(redL p st c).getD i 0=0)↔Spn p n (dqm st) (vec c):=by
 have h:=red_all hp hs hc
 constructor
 ·intro h0
  exact h.spn.cong fun i hi=>by simp only [vec];rw [h0 i hi];simp
 ·intro k i hi
  have h1:=k.minus h.spn (x:=vec (redL p st c)) fun i _=>⟨0,by grind⟩
  have h2:=ech_zero hs.ech (h1.mono (T:=vecsOf (st.map fun s=>(s.1,vec s.2))) fun u ⟨s,hs',e⟩=>⟨_,List.mem_map.2 ⟨s,hs',rfl⟩,e⟩) fun s hs'=>by
   obtain ⟨t,ht,rfl⟩:=List.mem_map.1 hs'
   simp only [vec]
   rw [h.zero t ht];exact Int.dvd_zero p
  have h3:=h2 i hi
  have h4:=h.ok.bnd i hi
  simp only [vec] at h3
  have h5:=Int.emod_eq_zero_of_dvd h3
  rwa [Int.emod_eq_of_lt h4.1 h4.2] at h5
theorem step_new (hp:1<p) {st:List (Nat×List Int)} (hs:StOK p n st) {c:List Int} (hc:gq8 p n c) {r:Nat} (hr:r<n) {inv:Int} (hi:(inv*(redL p st c).getD r 0)%p=1) {x:List Int} (hx:x=(redL p st c).map fun y=>y*inv%p):
  StOK p n (st++[(r,x)])/\(∀ u,dqm (st++[(r,x)]) u->Spn p n (fun u=>dqm st u\/u=vec c) u)/\Spn p n (dqm (st++[(r,x)])) (vec c):=by
 have h:=red_all (by omega) hs hc
 have hl:=h.ok.len
 have hat:∀ i,i<n->x.getD i 0=(redL p st c).getD i 0*inv%p:=fun i hi=>by
  have h1:i<(redL p st c).length:=by omega
  rw [hx]
  simp [List.getD_eq_getElem?_getD,List.getElem?_eq_getElem h1]
 have hxl:x.length=n:=by rw [hx,List.length_map,hl]
 have hxr:x.getD r 0=1:=by rw [hat r hr,Int.mul_comm];exact hi
 have hsx:∀ i,i<n->p ∣ vec x i-inv*vec (redL p st c) i:=fun i hi=>by
  simp only [vec]
  rw [hat i hi]
  have:=Int.dvd_neg.2 (nqq ((redL p st c).getD i 0*inv) p)
  rwa [show -((redL p st c).getD i 0*inv-(redL p st c).getD i 0*inv%p)=(redL p st c).getD i 0*inv%p-inv*(redL p st c).getD i 0 by grind] at this
 refine ⟨⟨fun s hs'=> ?_,?_⟩,fun u hu=> ?_,?_⟩
 ·rcases List.mem_append.1 hs' with hs' | hs'
  ·exact hs.ok s hs'
  ·rw [List.mem_singleton.1 hs']
   exact ⟨hr,⟨hxl,fun i hi=>by rw [hat i hi];exact ⟨Int.emod_nonneg _ (by omega),Int.emod_lt_of_pos _ (by omega)⟩⟩,hxr⟩
 ·rw [List.pairwise_append]
  refine ⟨hs.ord,List.pairwise_singleton _ _,fun s hs' t ht=> ?_⟩
  rw [List.mem_singleton.1 ht]
  show x.getD s.1 0=0
  rw [hat _ (hs.ok s hs').1,h.zero s hs']
  simp
 ·obtain ⟨s,hs',rfl⟩:=hu
  rcases List.mem_append.1 hs' with hs' | hs'
  ·exact .of (.inl ⟨s,hs',rfl⟩)
  ·rw [List.mem_singleton.1 hs']
   have h1:Spn p n (fun u=>dqm st u\/u=vec c) (vec (redL p st c)):=
    (Spn.of (S:=fun u=>dqm st u\/u=vec c) (.inr rfl)).minus (h.spn.mono fun u hu=> .inl hu) fun i _=>⟨0,by grind⟩
   exact h1.scale inv hsx
 ·have h1:Spn p n (dqm (st++[(r,x)])) (vec (redL p st c)):=by
   refine (Spn.of (S:=dqm (st++[(r,x)])) ⟨(r,x),by simp,rfl⟩).scale ((redL p st c).getD r 0) fun i hi'=> ?_
   have h2:=hsx i hi'
   have h3:p ∣ inv*(redL p st c).getD r 0-1:=by
    have:=Int.emod_add_mul_ediv (inv*(redL p st c).getD r 0) p
    exact ⟨inv*(redL p st c).getD r 0/p,by omega⟩
   have h4:=Int.dvd_add (Int.dvd_mul_of_dvd_right (b:= - (redL p st c).getD r 0) h2) (Int.dvd_mul_of_dvd_left (c:= - vec (redL p st c) i) h3)
   rwa [show -(redL p st c).getD r 0*(vec x i-inv*vec (redL p st c) i)+(inv*(redL p st c).getD r 0-1) * -vec (redL p st c) i=vec (redL p st c) i-(redL p st c).getD r 0*vec x i by grind] at h4
  have h2:Spn p n (dqm (st++[(r,x)])) (fun i=>vec c i-vec (redL p st c) i):=h.spn.mono fun u ⟨s,hs',e⟩=>⟨s,by simp [hs'],e⟩
  exact h1.plus h2 fun i _=>⟨0,by grind⟩
end
end Go.Am
namespace Go.Am
open Go Go.Proofs
set_option linter.unusedVariables false
set_option linter.unusedSimpArgs false
variable {w0:World}
attribute [local irreducible] AWP aqo
attribute [local congr] aqp
def bqq (st:List (Nat×List Int×List (Int×Int))):List AV:=st.flatMap fun s=>[I s.1,ints s.2.1,.fmp s.2.2]
theorem hqk (st:List (Nat×List Int×List (Int×Int))):(bqq st).length=st.length*3:=by
 induction st with
 | nil=>rfl
 | cons s st ih=>rw [bqq,List.flatMap_cons,List.length_append];rw [bqq] at ih;rw [ih];simp;omega
theorem stepCells_at {st:List (Nat×List Int×List (Int×Int))} {k:Nat} (h:k<st.length):((bqq st).drop (k*3)).take 3=[I st[k].1,ints st[k].2.1,.fmp st[k].2.2]:=by
 induction st generalizing k with
 | nil=>simp at h
 | cons s st ih=>
  cases k with
  | zero=>simp [bqq]
  | succ k=>
   have:=ih (k:=k) (by simpa using h)
   rw [show (k+1)*3=k*3+3 by omega]
   simpa [bqq] using this
def stV (st:List (Nat×List Int×List (Int×Int))):List (Nat×List Int):=st.map fun s=>(s.1,s.2.1)
def kvOK (p:Int) (kv:List (Int×Int)):Prop:=∀ x∈kv,0<=x.2/\x.2<p
theorem kvGet_ok {p:Int} {kv:List (Int×Int)} (hp:0<p) (h:kvOK p kv) (k:Int):0<=(gqj kv k).getD 0/\(gqj kv k).getD 0<p:=by
 induction kv with
 | nil=>simp [gqj];exact hp
 | cons x kv ih=>
  rw [gqj]
  split
  ·have:=h x (by simp);simpa using this
  ·exact ih fun y hy=>h y (by simp [hy])
theorem kvSet_ok {p:Int} {kv:List (Int×Int)} (h:kvOK p kv) {k v:Int} (hv:0<=v/\v<p):kvOK p (dq2 kv k v):=by
 induction kv with
 | nil=>intro x hx;simp [dq2] at hx;subst hx;exact hv
 | cons x kv ih=>
  intro y hy
  rw [dq2] at hy
  split at hy
  ·rcases List.mem_cons.1 hy with rfl | hy
   ·exact hv
   ·exact h y (by simp [hy])
  ·rcases List.mem_cons.1 hy with rfl | hy
   ·exact h _ (by simp)
   ·exact ih (fun z hz=>h z (by simp [hz])) y hy
def rh (H:Heap) (R T:Nat) (c:List Int) (kv:List (Int×Int)):Heap:=upd (upd H R (some (.arr 1 3 (c.map I) c.length))) T (some (.mapI kv))
section
variable {H:Heap} {R T X:Nat} {c:List Int} {kv:List (Int×Int)}
theorem rh_R (h:R≠T):rh H R T c kv R=some (.arr 1 3 (c.map I) c.length):=by rw [rh,aqm _ _ _ h,aqj]
theorem rh_T:rh H R T c kv T=some (.mapI kv):=by rw [rh,aqj]
theorem kq5 {y:Nat} (h1:y≠R) (h2:y≠T):rh H R T c kv y=H y:=by rw [rh,aqm _ _ _ h2,aqm _ _ _ h1]
def rx (H:Heap) (R T X:Nat) (c:List Int) (kv:List (Int×Int)) (bx:List AV):Heap:=upd (rh H R T c kv) X (some (.box bx))
theorem rx_setR {bx:List AV} {c':List Int} (h:R≠T) (h1:X≠R) (hl:c'.length=c.length):upd (rx H R T X c kv bx) R (some (.arr 1 3 (c'.map I) c.length))=rx H R T X c' kv bx:=by
 rw [rx,rx,rh,rh,aq9 _ _ _ h1,aq9 _ _ _ h.symm,aqx,hl]
theorem rx_setT {bx:List AV} {kv':List (Int×Int)} (h2:X≠T):upd (rx H R T X c kv bx) T (some (.mapI kv'))=rx H R T X c kv' bx:=by
 rw [rx,rx,rh,rh,aq9 _ _ _ h2,aqx]
theorem rx_X {bx:List AV}:rx H R T X c kv bx X=some (.box bx):=aqj _ _ _
theorem rx_R {bx:List AV} (h:R≠T) (h1:X≠R):rx H R T X c kv bx R=some (.arr 1 3 (c.map I) c.length):=by rw [rx,aqm _ _ _ h1.symm,rh_R h]
theorem rx_T {bx:List AV} (h2:X≠T):rx H R T X c kv bx T=some (.mapI kv):=by rw [rx,aqm _ _ _ h2.symm,rh_T]
theorem rx_ne {bx:List AV} {y:Nat} (h:y≠X) (h1:y≠R) (h2:y≠T):rx H R T X c kv bx y=H y:=by rw [rx,aqm _ _ _ h,kq5 h1 h2]
end
def mixV (p k:Int) (c x:List Int) (j:Nat):List Int:=(subV p k c x).take j++c.drop j
theorem mixV_len {p k:Int} {c x:List Int} {n j:Nat} (hc:c.length=n) (hx:x.length=n) (hj:j<=n):(mixV p k c x j).length=n:=by
 have:=eq1 (p:=p) (k:=k) hc hx
 simp [mixV,this,hc];omega
theorem mixV_at {p k:Int} {c x:List Int} {n j:Nat} (hc:c.length=n) (hx:x.length=n) (hj:j<n):(mixV p k c x j).getD j 0=c.getD j 0:=by
 have:=eq1 (p:=p) (k:=k) hc hx
 have h1:((subV p k c x).take j).length=j:=by rw [List.length_take];omega
 rw [mixV,List.getD_eq_getElem?_getD,List.getElem?_append_right (by omega),h1,Nat.sub_self,List.getElem?_drop,Nat.add_zero,List.getD_eq_getElem?_getD]
theorem mixV_set {p k:Int} {c x:List Int} {n j:Nat} (hc:c.length=n) (hx:x.length=n) (hj:j<n):(mixV p k c x j).set j ((c.getD j 0-k*x.getD j 0)%p)=mixV p k c x (j+1):=by
 have hl:=eq1 (p:=p) (k:=k) hc hx
 have h1:((subV p k c x).take j).length=j:=by rw [List.length_take];omega
 have h2:c.drop j=c[j]::c.drop (j+1):=by rw [List.getElem_cons_drop]
 rw [mixV,mixV,List.set_append_right _ _ (by omega),h1,Nat.sub_self,h2,List.set_cons_zero,List.take_succ_eq_append_getElem (by omega),List.append_assoc,List.singleton_append]
 congr 2
 have:=gqt (p:=p) (k:=k) hc hx hj
 rw [List.getD_eq_getElem?_getD,List.getElem?_eq_getElem (by omega)] at this
 exact this.symm
set_option maxHeartbeats 4000000 in
set_option maxRecDepth 20000 in
theorem reduce_use {p:Int} {n m b A:Nat} {st:List (Nat×List Int×List (Int×Int))} {c:List Int} (hp:p<=100) (hpr:bqg p=true) (hs:StOK p n (stV st)) (hc:gq8 p n c) (hn:n<=64) (hn0:0<n) (hm:st.length<=64) (hkv:∀ s∈st,kvOK p s.2.2)
  {H:Heap} (hb:H b=some (.box [I p,.ref A 0 st.length st.length])) (hA:H A=some (.arr 3 225 (bqq st) st.length)) {K:AV->Heap->Prop}
  (k:∀ R T kv,H R=none->H T=none->R≠T->kvOK p kv->K (.tup [.ref R 0 n n,.mp T]) (rh H R T (redL p (stV st) c) kv)):aqo Tryz.prog w0 225 [.ptr b 0 0,ints c] H K:=by
 refine (?_:aqo Tryz.prog w0 225 [.ptr b 0 0,ints c] H (fun v H'=>∃ R T kv,H R=none/\H T=none/\R≠T/\kvOK p kv/\v= .tup [.ref R 0 n n,.mp T]/\Sub (rh H R T (redL p (stV st) c) kv) H')).drop ?_
 rotate_left
 ·rintro v H' ⟨R,T,kv,h1,h2,h3,h4,rfl,hsub⟩
  exact ⟨_,hsub,k R T kv h1 h2 h3 h4⟩
 have hp2:2<=p:=by simp only [bqg,Bool.and_eq_true,decide_eq_true_eq] at hpr;exact hpr.1
 have hmB:mapB Tryz.prog 221=true:=by kernel_rfl
 have hcl:=hc.len
 have hne:c≠[]:=fun e=>by subst e;simp at hcl;omega
 refine aqf Tryz.func225 rfl Tryz.ntmps225 (ts:=[4,5]) rfl (by simp) (by kernel_rfl) ?_
 repeat'(first|(with_reducible (refine sp (hK _ _ ?_);clear hK K))|((fail_if_success(with_reducible refine aql 3 ?_));(fail_if_success(with_reducible refine(?_:AWP _ _ _ (Code.region 3 _ _) _ _ _)));with_reducible refine vr [] fun K hK=>?_)|((with_reducible refine aqa fun K' hK'=>?_);simp[ints];repeat'(first|(with_reducible (apply hK';clear hK' K'))|((with_reducible refine fq5 (l:=c) (by omega) (fun e=>absurd e hne) (fun R hR=> ?_));try simp[ints])|(with_reducible intro hg)|fail))|((fail_if_success(with_reducible refine aql 3 ?_));with_reducible refine sp ?_)|fail)
 rename_i T
 have hTR:T≠R:=by rintro rfl;simp at hg
 have hT:H T=none:=by rw [if_neg hTR] at hg;exact hg
 clear hg
 have hbR:b≠R:=by rintro rfl;rw [hb] at hR;cases hR
 have hbT:b≠T:=by rintro rfl;rw [hb] at hT;cases hT
 have hAR:A≠R:=by rintro rfl;rw [hA] at hR;cases hR
 have hAT:A≠T:=by rintro rfl;rw [hA] at hT;cases hT
 have hRT:R≠T:=hTR.symm
 repeat'(with_reducible first|(refine sp (hK _ _ ?_);clear hK K)|refine vr [] fun K hK=>?_|(refine aqa fun K' hK'=>?_;simp[hb,hbR,hbT,hRT];repeat'(first|(apply hK';clear hK' K')|fail))|refine sp ?_|fail)
 refine aqi (fun env h=>∃ (k:Nat) (kv:List (Int×Int)),k<=st.length/\kvOK p kv/\env 22=I k/\env 21=I st.length/\env 20= .ref A 0 st.length st.length/\env 1= .ref R 0 n n/\env 6= .mp T/\env 0= .ptr b 0 0/\
   Sub (rh H R T (redL p ((stV st).take k) c) kv) h) (fun env _=>st.length-natA (env 22)) ?_ ?_
 ·exact ⟨0,[],by omega,by simp [kvOK],by simp,by simp,by simp,by simp [hcl],by simp,by simp,by simp [rh,redL,Sub.refl]⟩
 rintro env h' ⟨q,kv,hq,hok,h22,h21,h20,h1,h6,h0,hsub⟩
 refine AWP.sub hsub ?_
 clear hsub
 have hnat:natA (env 22)=q:=by simp [h22]
 rw [hnat];clear hnat
 have hstl:(stV st).length=st.length:=by simp [stV]
 have hred:=red_ok (by omega) hs hc q (by omega)
 have hred1:=red_ok (by omega) hs hc (q+1)
 generalize hcur:redL p ((stV st).take q) c=cur at *
 have hcul:=hred.ok.len
 by_cases hlt:q<st.length
 ·have hat:=stepCells_at hlt
  have hsl:=hqk st
  have hlt':q*3+3<=st.length*3:=by omega
  repeat'(with_reducible first|(refine sp (hK _ _ ?_);clear hK K)|((fail_if_success(refine aql 6 ?_));(fail_if_success(refine(?_:AWP _ _ _ (Code.region 6 _ _) _ _ _)));refine vr [] fun K hK=>?_)|((first|refine aqa fun K' hK'=>?_|refine aqb fun K' B hK' hB=>?_);simp[h22,h21,h20,h1,h6,h0,hlt,kq5 hAR hAT,hA,hat,hsl,hlt'];repeat'(first|((first|refine hK' ?_|refine hB ?_);clear hK' hB K' B)|(apply hK';clear hK' K')|intro hg|fail))|((fail_if_success(refine aql 6 ?_));refine sp ?_)|fail)
  rename_i X
  have hXr:rh H R T cur kv X=none:=hg
  clear hg
  have hXR:X≠R:=by rintro rfl;rw [rh_R hRT] at hXr;cases hXr
  have hXT:X≠T:=by rintro rfl;rw [rh_T] at hXr;cases hXr
  have hbX:b≠X:=by rintro rfl;rw [kq5 hbR hbT,hb] at hXr;cases hXr
  obtain ⟨s1,s2,s3⟩:=hs.ok ((stV st)[q]'(by omega)) (List.getElem_mem _)
  have hstq:(stV st)[q]'(by omega)=(st[q].1,st[q].2.1):=by simp [stV]
  have hnew:redL p ((stV st).take (q+1)) c=redS p (st[q].1,st[q].2.1) cur:=by
   rw [List.take_succ_eq_append_getElem (by omega),redL_snoc,hcur,hstq]
  have hfm:=hkv st[q] (List.getElem_mem _)
  rw [hstq] at s1 s2 s3
  have hxl:=s2.len
  have hxb:=s2.bnd
  simp only at s1 s2 s3 hxl hxb
  generalize hrow:st[q].1=row at *
  generalize hx:st[q].2.1=x at *
  generalize hf:st[q].2.2=fm at *
  have hfold:upd (rh H R T cur kv) X (some (.box [I row,ints x,.fmp fm]))=rx H R T X cur kv [I row,ints x,.fmp fm]:=rfl
  simp only [ints] at hfold
  rw [hfold]
  clear hfold
  have hcb:=hred.ok.bnd
  have hck:=hcb row s1
  have hrl:row<cur.length:=by omega
  have hget:∀ h,cur[row]'h=cur.getD row 0:=fun h=>by simp [h]
  have hgo:cur[row]? =some (cur.getD row 0):=by simp [hrl]
  generalize hkk:cur.getD row 0=kk at *
  have lX:=fun c kv bx=>rx_X (H:=H) (R:=R) (T:=T) (X:=X) (c:=c) (kv:=kv) (bx:=bx)
  have lR:=fun c kv bx=>rx_R (H:=H) (c:=c) (kv:=kv) (bx:=bx) hRT hXR
  have lT:=fun c kv bx=>rx_T (H:=H) (R:=R) (c:=c) (kv:=kv) (bx:=bx) hXT
  have lb:=fun c kv bx=>(rx_ne (H:=H) (c:=c) (kv:=kv) (bx:=bx) hbX hbR hbT).trans hb
  have hHX:H X=none:=by rw [kq5 hXR hXT] at hXr;exact hXr
  have hsubX:∀ c kv',Sub (rh H R T c kv') (rx H R T X c kv' [I row,ints x,.fmp fm]):=fun c kv'=>(Sub.refl _).upd (by rw [kq5 hXR hXT];exact hHX) _
  by_cases hk0:kk=0
  ·rw [redS,hkk,if_pos hk0] at hnew
   repeat'(with_reducible first|(refine sp (hK _ _ ?_);clear hK K)|refine vr [] fun K hK=>?_|((first|refine aqa fun K' hK'=>?_|refine aqb fun K' B hK' hB=>?_);simp[h22,h21,h20,h1,h6,h0,lX,lR,hrl,hget,hgo,hk0,ints,hcul];repeat'(first|((first|refine hK' ?_|refine hB ?_);clear hK' hB K' B)|(apply hK';clear hK' K')|refine And.intro ?_ ?_|(clear hK' K';omega)))|refine sp ?_|fail)
   exact ⟨⟨q+1,kv,by omega,hok,by simp,by simp [h21],by simp [h20],by simp [h1],by simp [h6],by simp [h0],by rw [hnew];exact hsubX cur kv⟩,by simp;omega⟩
  ·rw [redS,hkk,if_neg hk0] at hnew
   simp only at hnew
   have hml:=fun j hj=>mixV_len (p:=p) (k:=kk) (j:=j) hcul hxl hj
   repeat'(with_reducible first|(refine sp (hK _ _ ?_);clear hK K)|refine vr [] fun K hK=>?_|((first|refine aqa fun K' hK'=>?_|refine aqb fun K' B hK' hB=>?_);simp[h22,h21,h20,h1,h6,h0,lX,lR,hrl,hget,hgo,hk0,ints,hcul];repeat'(first|((first|refine hK' ?_|refine hB ?_);clear hK' hB K' B)|(apply hK';clear hK' K')|refine And.intro ?_ ?_|(clear hK' K';omega)))|refine sp ?_|fail)
   refine aqi (fun env h=>∃ j:Nat,j<=n/\env 36=I j/\env 35=I n/\env 34=ints x/\env 9=I kk/\env 8= .ptr X 0 0/\env 22=I q/\env 21=I st.length/\env 20= .ref A 0 st.length st.length/\env 1= .ref R 0 n n/\env 6= .mp T/\env 0= .ptr b 0 0/\
    h=rx H R T X (mixV p kk cur x j) kv [I row,ints x,.fmp fm]) (fun env _=>n-natA (env 36)) ?_ ?_
   ·exact ⟨0,by omega,by simp,by simp [hxl],by simp [ints],by simp,by simp,by simp [h22],by simp [h21],by simp [h20],by simp [h1],by simp [h6],by simp [h0],by simp [mixV,ints]⟩
   clear h22 h21 h20 h1 h6 h0
   rintro env h ⟨j,hj,h36,h35,h34,h9,h8,h22,h21,h20,h1,h6,h0,rfl⟩
   have hnat:natA (env 36)=j:=by simp [h36]
   rw [hnat];clear hnat
   have hmlj:=hml j hj
   by_cases hjn:j<n
   ·have hma:=mixV_at (p:=p) (k:=kk) hcul hxl hjn
    have hms:=mixV_set (p:=p) (k:=kk) hcul hxl hjn
    have hml1:=hml (j+1) (by omega)
    have hcj:=hcb j hjn
    have hxj:=hxb j hjn
    have hjx:j<x.length:=by omega
    have hgx:∀ h,x[j]'h=x.getD j 0:=fun h=>by simp [h]
    have hgmo:(mixV p kk cur x j)[j]? =some (cur.getD j 0):=by
     rw [<-hma];have:j<(mixV p kk cur x j).length:=by omega
     simp [this]
    have hgxo:x[j]? =some (x.getD j 0):=by simp [hjx]
    generalize hcv:cur.getD j 0=cv at *
    generalize hxv:x.getD j 0=xv at *
    have hjm:j<(mixV p kk cur x j).length:=by omega
    have hgm:∀ h,(mixV p kk cur x j)[j]'h=cv:=fun h=>by rw [<-hma];simp [h]
    have hset:=rx_setR (H:=H) (R:=R) (T:=T) (X:=X) (c:=mixV p kk cur x j) (kv:=kv) (bx:=[I row,ints x,.fmp fm]) (c':=mixV p kk cur x (j+1)) hRT hXR (by omega)
    have hkx0:0<=kk*xv:=Int.mul_nonneg hck.1 hxj.1
    have hkx1:kk*xv<=10000:=by
     have:kk*xv<=100*100:=Int.mul_le_mul (by omega) (by omega) hxj.1 (by omega)
     omega
    have cm:=gqx (w0:=w0) (a:=cv-kk*xv) (p:=p) ⟨by omega,by omega⟩
    generalize mixV p kk cur x j=mv at *
    have hfin:upd (rx H R T X mv kv [I row,.sl (x.map I) x.length,.fmp fm]) R (some (.arr 1 3 ((mv.map I).set j (I ((cv-kk*xv)%p))) n))=rx H R T X (mixV p kk cur x (j+1)) kv [I row,ints x,.fmp fm]:=by
     have h:=hset
     rw [<-hms,hmlj,List.map_set] at h
     rw [<-hms]
     exact h
    repeat'(with_reducible first|(refine sp (hK _ _ ?_);clear hK K)|refine vr [] fun K hK=>?_|(refine vd [] [54] mixed fun K hK=>?_)|((first|refine aqa fun K' hK'=>?_|refine aqb fun K' B hK' hB=>?_|refine aqn fun K' hK'=>?_);simp[h36,h35,h34,h9,h8,h22,h21,h20,h1,h6,h0,lX,lR,lT,lb,hjn,hjx,hgx,hjm,hgm,hgmo,hgxo,hmlj,ints,boxes,Blk.isArr,aqg.refl];repeat'(first|((first|refine hK' ?_|refine hB ?_);clear hK' hB K' B)|(apply hK';clear hK' K')|(refine Ret.use cm ?_;try simp[h36,h35,h34,h9,h8,h22,h21,h20,h1,h6,h0,lX,lR,lT,lb,hjn,hjx,hgx,hjm,hgm,hgmo,hgxo,hmlj,ints,boxes,Blk.isArr,aqg.refl])|refine And.intro ?_ ?_|(clear hK' K';omega)))|refine sp ?_|fail)
    exact ⟨⟨j+1,by omega,by simp,by simp [h35],by simp [h34,ints],by simp [h9],by simp [h8],by simp [h22],by simp [h21],by simp [h20],by simp [h1],by simp [h6],by simp [h0],hfin⟩,by simp;omega⟩
   ·have:j=n:=by omega
    subst this
    have hmn:mixV p kk cur x j=subV p kk cur x:=by
     have:=eq1 (p:=p) (k:=kk) hcul hxl
     rw [mixV,List.take_of_length_le (by omega),List.drop_of_length_le (by omega),List.append_nil]
    rw [hmn]
    have hsv:=eq1 (p:=p) (k:=kk) hcul hxl
    generalize subV p kk cur x=mv at *
    repeat'(with_reducible first|(refine sp (hK _ _ ?_);clear hK K)|((fail_if_success(refine aql 14 ?_));(fail_if_success(refine(?_:AWP _ _ _ (Code.region 14 _ _) _ _ _)));refine vr [] fun K hK=>?_)|((first|refine aqa fun K' hK'=>?_|refine aqb fun K' B hK' hB=>?_);simp[h36,h35,h34,h9,h8,h22,h21,h20,h1,h6,h0,lX,ints,hmB];repeat'(first|((first|refine hK' ?_|refine hB ?_);clear hK' hB K' B)|(apply hK';clear hK' K')|intro hg|fail))|((fail_if_success(refine aql 14 ?_));refine sp ?_)|fail)
    rename_i Y
    have hYr:rx H R T X mv kv [I row,ints x,.fmp fm] Y=none:=hg
    clear hg
    have hYX:Y≠X:=by rintro rfl;rw [lX] at hYr;cases hYr
    have hYR:Y≠R:=by rintro rfl;rw [lR] at hYr;cases hYr
    have hYT:Y≠T:=by rintro rfl;rw [lT] at hYr;cases hYr
    have hbY:b≠Y:=by rintro rfl;rw [lb] at hYr;cases hYr
    refine aqi (fun env h=>∃ (kv':List (Int×Int)) (left:Nat) (cu:Option (Int×Int)),kvOK p kv'/\env 60= .ptr Y 0 0/\env 9=I kk/\env 22=I q/\env 21=I st.length/\env 20= .ref A 0 st.length st.length/\env 1= .ref R 0 j j/\env 6= .mp T/\env 0= .ptr b 0 0/\
     h=upd (rx H R T X mv kv' [I row,ints x,.fmp fm]) Y (some (.iter fm left cu))) (fun env h=>match h Y with | some (.iter _ l _)=>l | _=>0) ?_ ?_
    ·exact ⟨kv,_,_,hok,by simp,by simp [h9],by simp [h22],by simp [h21],by simp [h20],by simp [h1],by simp [h6],by simp [h0],rfl⟩
    clear h36 h35 h34 h9 h8 h22 h21 h20 h1 h6 h0
    rintro env h ⟨kv',left,cu,hok',h60,h9,h22,h21,h20,h1,h6,h0,rfl⟩
    have hlY:∀ bx,upd (rx H R T X mv kv' [I row,ints x,.fmp fm]) Y (some bx) Y=some bx:=fun bx=>aqj _ _ _
    have hmu:(match upd (rx H R T X mv kv' [I row,ints x,.fmp fm]) Y (some (.iter fm left cu)) Y with | some (.iter _ l _)=>l | _=>0)=left:=by rw [hlY]
    rw [hmu]
    clear hmu hlY
    repeat'(with_reducible first|(refine sp (hK _ _ ?_);clear hK K)|((fail_if_success(refine aql 16 ?_));(fail_if_success(refine(?_:AWP _ _ _ (Code.region 16 _ _) _ _ _)));refine vr [] fun K hK=>?_)|((first|refine aqa fun K' hK'=>?_|refine aqb fun K' B hK' hB=>?_);simp[h60,h9,h22,h21,h20,h1,h6,h0,ints];repeat'(first|((first|refine hK' ?_|refine hB ?_);clear hK' hB K' B)|(apply hK';clear hK' K')|refine And.intro ?_ ?_|intro hg|(clear hK' K';omega)))|((fail_if_success(refine aql 16 ?_));refine sp ?_)|fail)
    ·refine ⟨⟨q+1,kv',by omega,hok',by simp,by simp [h21],by simp [h20],by simp [h1],by simp [h6],by simp [h0],?_⟩,by simp;omega⟩
     rw [hnew]
     refine (hsubX mv kv').upd ?_ _
     rw [kq5 hYR hYT]
     rw [rx_ne hYX hYR hYT] at hYr
     exact hYr
    ·rename_i ka va hmem l
     have hl:l<left:=hg
     clear hg
     have hva:=hfm (ka,va) hmem
     have hga:=kvGet_ok (by omega) hok' ka
     simp only at hva
     have cm:=gqx (w0:=w0) (a:=(gqj kv' ka).getD 0+kk*va) (p:=p) ⟨by omega,by omega⟩
     have hkv0:0<=kk*va:=Int.mul_nonneg hck.1 hva.1
     have hkv1:kk*va<=10000:=by
      have:kk*va<=100*100:=Int.mul_le_mul (by omega) (by omega) hva.1 (by omega)
      omega
     have hset:=rx_setT (H:=H) (R:=R) (T:=T) (X:=X) (c:=mv) (kv:=kv') (bx:=[I row,ints x,.fmp fm]) (kv':=dq2 kv' ka (((gqj kv' ka).getD 0+kk*va)%p)) hXT
     have hok2:kvOK p (dq2 kv' ka (((gqj kv' ka).getD 0+kk*va)%p)):=kvSet_ok hok' ⟨Int.emod_nonneg _ (by omega),Int.emod_lt_of_pos _ (by omega)⟩
     have hTY:=hYT.symm
     repeat'(with_reducible first|(refine sp (hK _ _ ?_);clear hK K)|(refine vd [] [78] mixed fun K hK=>?_)|(refine aqn fun K' hK'=>?_;simp[h60,h9,h22,h21,h20,h1,h6,h0,lT,lb,hTY,hbY,ints,boxes,Blk.isArr,aqg.refl];repeat'(first|(apply hK';clear hK' K')|(refine Ret.use cm ?_;try simp[h60,h9,h22,h21,h20,h1,h6,h0,lT,lb,hTY,hbY,ints,boxes,Blk.isArr,aqg.refl])|refine And.intro ?_ ?_|(clear hK' K';omega)))|refine sp ?_|fail)
     refine ⟨⟨_,l,some (ka,va),hok2,by simp [h60],by simp [h9],by simp [h22],by simp [h21],by simp [h20],by simp [h1],by simp [h6],by simp [h0],?_⟩,?_⟩
     ·rw [aq9 _ _ _ hYT]
      congr 1
     ·simp [hTY,hYT]
      exact hl
 ·have:q=st.length:=by omega
  subst this
  rw [<-hstl,List.take_length] at hcur
  subst hcur
  repeat'(with_reducible first|(refine sp (hK _ _ ?_);clear hK K)|refine vr [] fun K hK=>?_|((first|refine aqa fun K' hK'=>?_|refine aqb fun K' B hK' hB=>?_);simp[h22,h21,h20,h1,h6,h0];repeat'(first|((first|refine hK' ?_|refine hB ?_);clear hK' hB K' B)|(apply hK';clear hK' K')|fail))|apply aqc|refine sp ?_|fail)
  exact ⟨R,T,kv,hR,hT,hRT,hok,by simp,Sub.refl _⟩
end Go.Am
namespace Go.Am
open Go Go.Proofs
set_option linter.unusedVariables false
set_option linter.unusedSimpArgs false
variable {w0:World}
attribute [local irreducible] AWP aqo
attribute [local congr] aqp
set_option maxHeartbeats 4000000 in
theorem reduce_nil {p:Int} {n b:Nat} {c:List Int} (hc:c.length=n) (hn:n<=64) (hn0:0<n)
  {H:Heap} (hb:H b=some (.box [I p,.sc (.slice none 0 0)])) {K:AV->Heap->Prop}
  (k:∀ R T,H R=none->H T=none->R≠T->K (.tup [.ref R 0 n n,.mp T]) (rh H R T c [])):aqo Tryz.prog w0 225 [.ptr b 0 0,ints c] H K:=by
 refine (?_:aqo Tryz.prog w0 225 [.ptr b 0 0,ints c] H (fun v H'=>∃ R T,H R=none/\H T=none/\R≠T/\v= .tup [.ref R 0 n n,.mp T]/\Sub (rh H R T c []) H')).drop ?_
 rotate_left
 ·rintro v H' ⟨R,T,h1,h2,h3,rfl,hsub⟩
  exact ⟨_,hsub,k R T h1 h2 h3⟩
 have hne:c≠[]:=fun e=>by subst e;simp at hc;omega
 refine aqf Tryz.func225 rfl Tryz.ntmps225 (ts:=[4,5]) rfl (by simp) (by kernel_rfl) ?_
 repeat'(first|(with_reducible (refine sp (hK _ _ ?_);clear hK K))|((fail_if_success(with_reducible refine aql 3 ?_));(fail_if_success(with_reducible refine(?_:AWP _ _ _ (Code.region 3 _ _) _ _ _)));with_reducible refine vr [] fun K hK=>?_)|((with_reducible refine aqa fun K' hK'=>?_);simp[ints];repeat'(first|(with_reducible (apply hK';clear hK' K'))|((with_reducible refine fq5 (l:=c) (by omega) (fun e=>absurd e hne) (fun R hR=> ?_));try simp[ints])|(with_reducible intro hg)|fail))|((fail_if_success(with_reducible refine aql 3 ?_));with_reducible refine sp ?_)|fail)
 rename_i T
 have hTR:T≠R:=by rintro rfl;simp at hg
 have hT:H T=none:=by rw [if_neg hTR] at hg;exact hg
 clear hg
 have hbR:b≠R:=by rintro rfl;rw [hb] at hR;cases hR
 have hbT:b≠T:=by rintro rfl;rw [hb] at hT;cases hT
 have hRT:R≠T:=hTR.symm
 repeat'(with_reducible first|(refine sp (hK _ _ ?_);clear hK K)|refine vr [] fun K hK=>?_|(refine aqa fun K' hK'=>?_;simp[hb,hbR,hbT,hRT];repeat'(first|(apply hK';clear hK' K')|fail))|refine sp ?_|fail)
 refine aqi (fun env h=>env 22=I 0/\env 21=I 0/\env 1= .ref R 0 n n/\env 6= .mp T/\h=rh H R T c []) (fun env _=>0) ?_ ?_
 ·exact ⟨by simp,by simp,by simp [hc],by simp,by simp [rh]⟩
 rintro env h' ⟨h22,h21,h1,h6,rfl⟩
 repeat'(with_reducible first|(refine sp (hK _ _ ?_);clear hK K)|refine vr [] fun K hK=>?_|((first|refine aqa fun K' hK'=>?_|refine aqb fun K' B hK' hB=>?_);simp[h22,h21,h1,h6];repeat'(first|((first|refine hK' ?_|refine hB ?_);clear hK' hB K' B)|(apply hK';clear hK' K')|fail))|apply aqc|refine sp ?_|fail)
 exact ⟨R,T,hR,hT,hRT,by simp,Sub.refl _⟩
def StairH (h:Heap) (b:Nat) (p:Int) (st:List (Nat×List Int×List (Int×Int))):Prop:=
 (st=[]/\h b=some (.box [I p,.sc (.slice none 0 0)]))\/(st≠[]/\∃ A,A≠b/\h b=some (.box [I p,.ref A 0 st.length st.length])/\h A=some (.arr 3 225 (bqq st) st.length))
theorem reduceA_use {p:Int} {n b:Nat} {st:List (Nat×List Int×List (Int×Int))} {c:List Int} (hp:p<=100) (hpr:bqg p=true) (hs:StOK p n (stV st)) (hc:gq8 p n c) (hn:n<=64) (hn0:0<n) (hm:st.length<=64) (hkv:∀ s∈st,kvOK p s.2.2)
  {H:Heap} (hS:StairH H b p st) {K:AV->Heap->Prop}
  (k:∀ R T kv,H R=none->H T=none->R≠T->kvOK p kv->K (.tup [.ref R 0 n n,.mp T]) (rh H R T (redL p (stV st) c) kv)):aqo Tryz.prog w0 225 [.ptr b 0 0,ints c] H K:=by
 rcases hS with ⟨rfl,hb⟩ | ⟨hne,A,hAb,hb,hA⟩
 ·refine reduce_nil hc.len hn hn0 hb fun R T h1 h2 h3=>k R T [] h1 h2 h3 (by simp [kvOK])
 ·exact reduce_use (m:=0) hp hpr hs hc hn hn0 hm hkv hb hA k
theorem addP_ret {x:Int}:Ret Tryz.prog w0 226 [I x] (B (!decide (x=0))):=by
 intro H
 refine aqf Tryz.func226 rfl Tryz.ntmps226 (ts:=[2]) rfl (by simp) (by kernel_rfl) ?_
 repeat'(with_reducible first|(refine aqd (hK _ _ ?_);clear hK K)|refine vr [] fun K hK=>?_|(refine aqa fun K' hK'=>?_;simp;repeat'(first|(apply hK';clear hK' K')|fail))|apply aqc|refine sp ?_|fail)
 simp
set_option maxHeartbeats 4000000 in
set_option maxRecDepth 20000 in
theorem add_use {p:Int} {n b ix:Nat} {st:List (Nat×List Int×List (Int×Int))} {c:List Int} (hp:p<=100) (hpr:bqg p=true) (hs:StOK p n (stV st)) (hc:gq8 p n c) (hn:n<=64) (hn0:0<n) (hm:st.length<64) (hkv:∀ s∈st,kvOK p s.2.2)
  {H:Heap} (hS:StairH H b p st) {K:AV->Heap->Prop} (k0:Spn p n (dqm (stV st)) (vec c)->K (B false) H)
  (k1:∀ A s,¬Spn p n (dqm (stV st)) (vec c)->StOK p n (stV (st++[s]))->(∀ u,dqm (stV (st++[s])) u->Spn p n (fun u=>dqm (stV st) u\/u=vec c) u)->Spn p n (dqm (stV (st++[s]))) (vec c)->kvOK p s.2.2->A≠b->
   (H A=none\/∃ cells,H b=some (.box [I p,.ref A 0 st.length st.length])/\H A=some (.arr 3 225 cells st.length))->
   K (B true) (upd (upd H A (some (.arr 3 225 (bqq (st++[s])) (st.length+1)))) b (some (.box [I p,.ref A 0 (st.length+1) (st.length+1)])))):
  aqo Tryz.prog w0 222 [.ptr b 0 0,I ix,ints c] H K:=by
 have hp2:2<=p:=by simp only [bqg,Bool.and_eq_true,decide_eq_true_eq] at hpr;exact hpr.1
 have hri:=red_iff (by omega) hs hc
 have hra:=red_all (by omega) hs hc
 have hrb:=hra.ok.bnd
 have hrl:=hra.ok.len
 have hmB:mapB Tryz.prog 221=true:=by kernel_rfl
 refine (?_:aqo Tryz.prog w0 222 [.ptr b 0 0,I ix,ints c] H (fun v H'=>(v=B false/\Spn p n (dqm (stV st)) (vec c)/\Sub H H')\/∃ A s,v=B true/\¬Spn p n (dqm (stV st)) (vec c)/\StOK p n (stV (st++[s]))/\(∀ u,dqm (stV (st++[s])) u->Spn p n (fun u=>dqm (stV st) u\/u=vec c) u)/\Spn p n (dqm (stV (st++[s]))) (vec c)/\kvOK p s.2.2/\A≠b/\
   (H A=none\/∃ cells,H b=some (.box [I p,.ref A 0 st.length st.length])/\H A=some (.arr 3 225 cells st.length))/\
   Sub (upd (upd H A (some (.arr 3 225 (bqq (st++[s])) (st.length+1)))) b (some (.box [I p,.ref A 0 (st.length+1) (st.length+1)]))) H')).drop ?_
 rotate_left
 ·rintro v H' (⟨rfl,h1,h2⟩ | ⟨A,s,rfl,h1,h2,h3,h4,h5,h6,h7,h8⟩)
  ·exact ⟨_,h2,k0 h1⟩
  ·exact ⟨_,h8,k1 A s h1 h2 h3 h4 h5 h6 h7⟩
 have hbn:∀ y,H y=none->b≠y:=fun y hy e=>by subst e;rcases hS with ⟨_,h⟩ | ⟨_,A,_,h,_⟩<;>rw [h] at hy<;>cases hy
 refine aqf Tryz.func222 rfl Tryz.ntmps222 (ts:=[6]) rfl (by simp) (by kernel_rfl) ?_
 repeat'(first|(with_reducible (refine sp (hK _ _ ?_);clear hK K))|((fail_if_success(with_reducible refine aql 2 ?_));(fail_if_success(with_reducible refine(?_:AWP _ _ _ (Code.region 2 _ _) _ _ _)));with_reducible refine vr [] fun K hK=>?_)|((with_reducible refine aqa fun K' hK'=>?_);simp[ints];repeat'(first|(with_reducible (apply hK';clear hK' K'))|((with_reducible refine reduceA_use hp hpr hs hc hn hn0 (by omega) hkv hS (fun R T kv hR hT hRT hok=> ?_));try simp[ints])|fail))|fail)
 have hbR:=hbn R hR
 have hbT:=hbn T hT
 have hwz:∀ w:List Int,w.length=n->(∀ x∈w,(!decide (x=0))=false)->∀ i,i<n->w.getD i 0=0:=fun w hw h i hi=>by
  have:=h (w.getD i 0) (by
   have:i<w.length:=by omega
   simp [List.getD_eq_getElem?_getD,this])
  simpa using this
 have hwhole:=fun (r:Nat) (inv:Int)=>step_new (r:=r) (inv:=inv) (show 1<p by omega) hs hc
 generalize redL p (stV st) c=w at *
 have hix:=kqn (w0:=w0) (l:=w) (f:=226) (p:=fun x=> !decide (x=0)) (H:=rh H R T w kv) (r:=R) (by simp only [aqz];omega) (rh_R hRT) (fun x=>addP_ret)
 rw [hrl] at hix
 rcases lq2 (fun x:Int=> !decide (x=0)) w with ⟨e,hz⟩ | ⟨i,hi,e,hpi,_⟩
 ·rw [e] at hix
  have hsp:=hri.1 (hwz w hrl hz)
  repeat'(first|(with_reducible (refine sp (hK _ _ ?_);clear hK K))|(with_reducible refine vr [] fun K hK=>?_)|((with_reducible first|refine aqa fun K' hK'=>?_|refine aqb fun K' B hK' hB=>?_);simp;repeat'(first|(with_reducible first|((first|refine hK' ?_|refine hB ?_);clear hK' hB K' B)|(apply hK';clear hK' K'))|((with_reducible refine bqp.use hix ?_;try simp);try simp)|fail))|(with_reducible first|apply aqc|refine sp ?_)|fail)
  exact .inl ⟨by simp,hsp,((Sub.refl _).upd hR _).upd hT _⟩
 ·rw [e] at hix
  have hin:i<n:=by omega
  have hwi:=hrb i hin
  have hwo:w[i]? =some (w.getD i 0):=by simp [hi]
  have hwne:w.getD i 0≠0:=by simpa [List.getD_eq_getElem?_getD,List.getElem?_eq_getElem hi] using hpi
  have hnsp:¬Spn p n (dqm (stV st)) (vec c):=fun h=>hwne (hri.2 h i hin)
  have cinv:=inv_ret (w0:=w0) (a:=w.getD i 0) hp hpr (by omega) (by omega)
  have hinvm:=nqd (a:=w.getD i 0) hp hpr (by omega) (by omega)
  have hib:0<=w.getD i 0^(p-2).toNat%p/\w.getD i 0^(p-2).toNat%p<p:=⟨Int.emod_nonneg _ (by omega),Int.emod_lt_of_pos _ (by omega)⟩
  have hi0:¬(i:Int)<0:=by omega
  generalize w.getD i 0^(p-2).toNat%p=inv at *
  have hgi:∀ h:i<w.length,w[i]'h=w.getD i 0:=fun h=>by simp [h]
  generalize hwi':w.getD i 0=wi at *
  have lR:=rh_R (H:=H) (c:=w) (kv:=kv) hRT
  repeat'(first|(with_reducible (refine sp (hK _ _ ?_);clear hK K))|((fail_if_success(with_reducible refine aql 5 ?_));(fail_if_success(with_reducible refine(?_:AWP _ _ _ (Code.region 5 _ _) _ _ _)));with_reducible refine vr [] fun K hK=>?_)|((with_reducible first|refine aqa fun K' hK'=>?_|refine aqb fun K' B hK' hB=>?_);simp[hi0];repeat'(first|(with_reducible first|((first|refine hK' ?_|refine hB ?_);clear hK' hB K' B)|(apply hK';clear hK' K'))|((with_reducible refine bqp.use hix ?_;try simp);try simp[hi0])|fail))|((fail_if_success(with_reducible refine aql 5 ?_));with_reducible refine sp ?_)|fail)
  obtain ⟨sv,hb,hcase⟩:∃ sv,H b=some (.box [I p,sv])/\(st=[]/\sv= .sc (.slice none 0 0)\/st≠[]/\∃ A,A≠b/\sv= .ref A 0 st.length st.length/\H A=some (.arr 3 225 (bqq st) st.length)):=by
   rcases hS with ⟨rfl,hb⟩ | ⟨hne,A,hAb,hb,hA⟩
   ·exact ⟨_,hb,.inl ⟨rfl,rfl⟩⟩
   ·exact ⟨_,hb,.inr ⟨hne,A,hAb,rfl,hA⟩⟩
  have lb:=(kq5 (H:=H) (c:=w) (kv:=kv) hbR hbT).trans hb
  repeat'(with_reducible first|(refine sp (hK _ _ ?_);clear hK K)|((fail_if_success(refine aql 6 ?_));(fail_if_success(refine(?_:AWP _ _ _ (Code.region 6 _ _) _ _ _)));refine vd [] [34] mixed fun K hK=>?_)|(refine aqn fun K' hK'=>?_;simp[lR,lb,hwo,hgi,hi,hin,hrl,boxes,Blk.isArr,aqg.refl];repeat'(first|(apply hK';clear hK' K')|(refine Ret.use cinv ?_;try simp[lR,lb,hwo,hgi,hi,hin,hrl,boxes,Blk.isArr,aqg.refl])|fail))|fail)
  refine iqf 8 (r:=T) (kv:=kv) (by simp) rh_T ?_
  have hun:upd (rh H R T w kv) T none=upd H R (some (.arr 1 3 (w.map I) w.length)):=by
   rw [rh,aqx]
   exact aq7 (by rw [aqm _ _ _ hRT.symm];exact hT)
  rw [hun]
  clear hun
  repeat'(with_reducible first|(refine sp (hK _ _ ?_);clear hK K)|((fail_if_success(refine aql 7 ?_));(fail_if_success(refine(?_:AWP _ _ _ (Code.region 7 _ _) _ _ _)));refine vr [] fun K hK=>?_)|(refine aqa fun K' hK'=>?_;simp[hmB];repeat'(first|(apply hK';clear hK' K')|intro hg|fail))|((fail_if_success(refine aql 7 ?_));refine sp ?_)|fail)
  rename_i F
  have hFR:F≠R:=by rintro rfl;simp at hg
  have hF:H F=none:=by rw [if_neg hFR] at hg;exact hg
  clear hg
  have hRF:R≠F:=hFR.symm
  have hbF:=hbn F hF
  have hfold:upd (upd H R (some (.arr 1 3 (w.map I) w.length))) F (some (.mapI (dq2 [] ix inv)))=rh H R F w [((ix:Int),inv)]:=rfl
  rw [hfold]
  clear hfold
  have hok1:kvOK p [((ix:Int),inv)]:=fun x hx=>by simp at hx;subst hx;exact hib
  clear lR lb
  have lR:=fun c kv=>rh_R (H:=H) (R:=R) (T:=F) (c:=c) (kv:=kv) hRF
  have lF:=fun c kv=>rh_T (H:=H) (R:=R) (T:=F) (c:=c) (kv:=kv)
  have lb:=fun c kv=>(kq5 (H:=H) (R:=R) (T:=F) (c:=c) (kv:=kv) hbR hbF).trans hb
  repeat'(with_reducible first|(refine sp (hK _ _ ?_);clear hK K)|((fail_if_success(refine aql 8 ?_));(fail_if_success(refine(?_:AWP _ _ _ (Code.region 8 _ _) _ _ _)));refine vr [] fun K hK=>?_)|(refine aqa fun K' hK'=>?_;simp[hmB];repeat'(first|(apply hK';clear hK' K')|intro hg|fail))|((fail_if_success(refine aql 8 ?_));refine sp ?_)|fail)
  rename_i Y
  have hYr:rh H R F w [((ix:Int),inv)] Y=none:=hg
  clear hg
  have hYR:Y≠R:=by rintro rfl;rw [lR] at hYr;cases hYr
  have hYF:Y≠F:=by rintro rfl;rw [lF] at hYr;cases hYr
  have hbY:b≠Y:=by rintro rfl;rw [lb] at hYr;cases hYr
  have hFY:=hYF.symm
  refine aqi (fun env h=>∃ (kv':List (Int×Int)) (left:Nat) (cu:Option (Int×Int)),kvOK p kv'/\env 43= .ptr Y 0 0/\env 0= .ptr b 0 0/\env 7= .ref R 0 n n/\env 9=I i/\env 10=I inv/\env 12= .mp F/\
   h=upd (rh H R F w kv') Y (some (.iter kv left cu))) (fun env h=>match h Y with | some (.iter _ l _)=>l | _=>0) ?_ ?_
  ·exact ⟨_,_,_,hok1,by simp,by simp,by simp,by simp,by simp,by simp,rfl⟩
  rintro env h ⟨kv',left,cu,hok',h43,h0,h7,h9,h10,h12,rfl⟩
  have hlY:∀ bx,upd (rh H R F w kv') Y (some bx) Y=some bx:=fun bx=>aqj _ _ _
  have hmu:(match upd (rh H R F w kv') Y (some (.iter kv left cu)) Y with | some (.iter _ l _)=>l | _=>0)=left:=by rw [hlY]
  rw [hmu]
  clear hmu hlY
  repeat'(with_reducible first|(refine sp (hK _ _ ?_);clear hK K)|((fail_if_success(refine aql 10 ?_));(fail_if_success(refine aql 11 ?_));(fail_if_success(refine(?_:AWP _ _ _ (Code.region 10 _ _) _ _ _)));(fail_if_success(refine(?_:AWP _ _ _ (Code.region 11 _ _) _ _ _)));refine vr [] fun K hK=>?_)|((first|refine aqa fun K' hK'=>?_|refine aqb fun K' B hK' hB=>?_);simp[h43,h0,h7,h9,h10,h12];repeat'(first|((first|refine hK' ?_|refine hB ?_);clear hK' hB K' B)|(apply hK';clear hK' K')|refine And.intro ?_ ?_|intro hg|fail))|((fail_if_success(refine aql 10 ?_));(fail_if_success(refine aql 11 ?_));refine sp ?_)|fail)
  ·have hHY:H Y=none:=by rw [kq5 hYR hYF] at hYr;exact hYr
   refine AWP.sub (H':=rh H R F w kv') ((Sub.refl _).upd (by rw [kq5 hYR hYF];exact hHY) _) ?_
   have hml:∀ j,j<=n->((w.map fun y=>y*inv%p).take j++w.drop j).length=n:=fun j hj=>by simp [hrl];omega
   repeat'(with_reducible first|(refine sp (hK _ _ ?_);clear hK K)|((fail_if_success(refine aql 12 ?_));(fail_if_success(refine(?_:AWP _ _ _ (Code.region 12 _ _) _ _ _)));refine vr [] fun K hK=>?_)|(refine aqa fun K' hK'=>?_;simp[h43,h0,h7,h9,h10,h12,lR];repeat'(first|(apply hK';clear hK' K')|fail))|((fail_if_success(refine aql 12 ?_));refine sp ?_)|fail)
   refine aqi (fun env h=>∃ j:Nat,j<=n/\env 62=I j/\env 61=I n/\env 0= .ptr b 0 0/\env 7= .ref R 0 n n/\env 9=I i/\env 10=I inv/\env 12= .mp F/\
    h=rh H R F ((w.map fun y=>y*inv%p).take j++w.drop j) kv') (fun env _=>n-natA (env 62)) ?_ ?_
   ·exact ⟨0,by omega,by simp,by simp,by simp [h0],by simp [h7],by simp [h9],by simp [h10],by simp [h12],by simp⟩
   clear h43 h0 h7 h9 h10 h12
   rintro env h ⟨j,hj,h62,h61,h0,h7,h9,h10,h12,rfl⟩
   have hnat:natA (env 62)=j:=by simp [h62]
   rw [hnat];clear hnat
   have hmj:=hml j hj
   by_cases hjn:j<n
   ·have hjw:j<w.length:=by omega
    have hl1:((w.map fun y=>y*inv%p).take j).length=j:=by simp;omega
    have hjg:((w.map fun y=>y*inv%p).take j++w.drop j)[j]? =some (w.getD j 0):=by
     rw [List.getElem?_append_right (by omega),hl1,Nat.sub_self,List.getElem?_drop]
     simp [hjw]
    have hjs:((w.map fun y=>y*inv%p).take j++w.drop j).set j (w.getD j 0*inv%p)=(w.map fun y=>y*inv%p).take (j+1)++w.drop (j+1):=by
     rw [List.set_append_right _ _ (by omega),hl1,Nat.sub_self,show w.drop j=w[j]::w.drop (j+1) by rw [List.getElem_cons_drop],List.set_cons_zero,List.take_succ_eq_append_getElem (by simp;omega),List.append_assoc,List.singleton_append]
     simp [hjw]
    have hwj:=hrb j hjn
    have hp0:0<=w.getD j 0*inv:=Int.mul_nonneg hwj.1 hib.1
    have hp1:w.getD j 0*inv<=10000:=by
     have:w.getD j 0*inv<=100*100:=Int.mul_le_mul (by omega) (by omega) hib.1 (by omega)
     omega
    have htm:=cqb (p:=p) hp0
    have hpn:¬p=0:=by omega
    generalize w.getD j 0=wj at *
    have hfin:upd (rh H R F ((w.map fun y=>y*inv%p).take j++w.drop j) kv') R (some (.arr 1 3 ((((w.map fun y=>y*inv%p).take j++w.drop j).map I).set j (I (wj*inv%p))) n))=rh H R F ((w.map fun y=>y*inv%p).take (j+1)++w.drop (j+1)) kv':=by
     rw [<-List.map_set,hjs,rh,rh,aq9 _ _ _ hRF.symm,aqx,hml (j+1) (by omega)]
    have hjl:j<((w.map fun y=>y*inv%p).take j++w.drop j).length:=by omega
    generalize hmv:(w.map fun y=>y*inv%p).take j++w.drop j=mv at *
    have hjg':∀ h:j<mv.length,mv[j]'h=wj:=fun h=>by rw [List.getElem?_eq_getElem h] at hjg;simpa using hjg
    repeat'(with_reducible first|(refine sp (hK _ _ ?_);clear hK K)|refine vr [] fun K hK=>?_|(refine vd [] [76] mixed fun K hK=>?_)|((first|refine aqa fun K' hK'=>?_|refine aqb fun K' B hK' hB=>?_|refine aqn fun K' hK'=>?_);simp[h62,h61,h0,h7,h9,h10,h12,lR,lb,hjn,hjg,hjg',hjl,hmj,htm,hpn,boxes,Blk.isArr,aqg.refl];repeat'(first|((first|refine hK' ?_|refine hB ?_);clear hK' hB K' B)|(apply hK';clear hK' K')|refine And.intro ?_ ?_|(clear hK' K';omega)))|refine sp ?_|fail)
    exact ⟨⟨j+1,by omega,by simp,by simp [h61],by simp [h0],by simp [h7],by simp [h9],by simp [h10],by simp [h12],hfin⟩,by simp;omega⟩
   ·have:j=n:=by omega
    subst this
    have hmx:(w.map fun y=>y*inv%p).take j++w.drop j=w.map fun y=>y*inv%p:=by
     rw [List.take_of_length_le (by simp;omega),List.drop_of_length_le (by omega),List.append_nil]
    rw [hmx]
    obtain ⟨n1,n2,n3⟩:=hwhole i inv hin (by rw [hwi'];exact hinvm) rfl
    have hxl:(w.map fun y=>y*inv%p).length=j:=by simp [hrl]
    generalize (w.map fun y=>y*inv%p)=x at *
    repeat'(with_reducible first|(refine sp (hK _ _ ?_);clear hK K)|((fail_if_success(refine aql 16 ?_));(fail_if_success(refine(?_:AWP _ _ _ (Code.region 16 _ _) _ _ _)));refine vr [] fun K hK=>?_)|((first|refine aqa fun K' hK'=>?_|refine aqb fun K' B hK' hB=>?_);simp[h62,h61,h0,h7,h9,h10,h12];repeat'(first|((first|refine hK' ?_|refine hB ?_);clear hK' hB K' B)|(apply hK';clear hK' K')|fail))|((fail_if_success(refine aql 16 ?_));refine sp ?_)|fail)
    refine eqx 7 (r:=R) (off:=0) (len:=j) (top:=j) (by simp [h7]) (by rw [lR,hxl]) ?_
    have hcx:cut 1 (x.map I) 0 j=ints x:=by rw [<-hxl];exact bqw I x
    refine iqf 12 (r:=F) (kv:=kv') (by simp [h12]) (by rw [aqm _ _ _ hFR,lF]) ?_
    have hun:upd (upd (rh H R F x kv') R none) F none=H:=by
     rw [rh,aq9 _ _ _ hRF.symm,aqx,aqx,aq9 _ _ _ hRF,aq7 hF,aq7 hR]
    rw [hun,hcx]
    clear hun
    have hst1:stV (st++[(i,x,kv')])=stV st++[(i,x)]:=by simp [stV]
    have hsc:bqq (st++[(i,x,kv')])=bqq st++[I i,ints x,.fmp kv']:=by simp [bqq]
    have hsl:=hqk st
    have hz3:zrep [Value.int IntKind.i64 0,Value.slice none 0 0,Value.map none] 3=[.sc (.int .i64 0),.sc (.slice none 0 0),.sc (.map none)]:=by rfl
    rcases hcase with ⟨rfl,rfl⟩ | ⟨hne,A,hAb,rfl,hA⟩
    ·repeat'(with_reducible first|refine vr [] fun K hK=>?_|(refine aqa fun K' hK'=>?_;simp[h62,h61,h0,h7,h9,h10,h12,hb,ints,hz3];repeat'(first|(apply hK';clear hK' K')|intro hg|fail))|fail)
     rename_i A
     have hA:H A=none:=hg
     have hbA:=hbn A hA
     simp [hbA]
     with_reducible refine hK' _ _ ?_
     clear hK' K'
     repeat'(with_reducible first|(refine sp (hK _ _ ?_);clear hK K)|refine vr [] fun K hK=>?_|(refine aqa fun K' hK'=>?_;simp[hbA];repeat'(first|(apply hK';clear hK' K')|fail))|apply aqc|refine sp ?_|fail)
     refine .inr ⟨A,(i,x,kv'),by simp,hnsp,by rw [hst1];exact n1,by rw [hst1];exact n2,by rw [hst1];exact n3,hok',hbA.symm,.inl hA,?_⟩
     exact Sub.refl _
    ·have hbA:=hAb.symm
     repeat'(with_reducible first|(refine sp (hK _ _ ?_);clear hK K)|refine vr [] fun K hK=>?_|(refine aqa fun K' hK'=>?_;simp[h62,h61,h0,h7,h9,h10,h12,hb,hA,hbA,ints,hz3];repeat'(first|(apply hK';clear hK' K')|refine And.intro ?_ ?_|(clear hK' K';omega)))|apply aqc|refine sp ?_|fail)
     all_goals try omega
     refine .inr ⟨A,(i,x,kv'),by simp,hnsp,by rw [hst1];exact n1,by rw [hst1];exact n2,by rw [hst1];exact n3,hok',hAb,.inr ⟨_,hb,hA⟩,?_⟩
     rw [hsc]
     exact Sub.refl _
  ·rename_i ka va hmem l
   have hl:l<left:=hg
   clear hg
   have hva:=hok (ka,va) hmem
   simp only at hva
   have cm:=gqx (w0:=w0) (a:= -va*inv) (p:=p) ⟨by omega,by omega⟩
   have hv0:0<=va*inv:=Int.mul_nonneg hva.1 hib.1
   have hv1:va*inv<=10000:=by
    have:va*inv<=100*100:=Int.mul_le_mul (by omega) (by omega) hib.1 (by omega)
    omega
   have hv2: -va*inv= -(va*inv):=by grind
   have hok2:kvOK p (dq2 kv' ka ((-va*inv)%p)):=kvSet_ok hok' ⟨Int.emod_nonneg _ (by omega),Int.emod_lt_of_pos _ (by omega)⟩
   repeat'(with_reducible first|(refine sp (hK _ _ ?_);clear hK K)|refine vr [] fun K hK=>?_|(refine aqa fun K' hK'=>?_;simp[h43,h0,h7,h9,h10,h12,lF,lb,hFY,hbY];repeat'(first|(apply hK';clear hK' K')|refine Ret.use cm ?_|refine And.intro ?_ ?_|(clear hK' K';omega)))|refine sp ?_|fail)
   refine ⟨⟨_,l,some (ka,va),hok2,by simp [h43],by simp [h0],by simp [h7],by simp [h9],by simp [h10],by simp [h12],?_⟩,?_⟩
   ·rw [aq9 _ _ _ hYF,rh,aqx]
    rfl
   ·simp [hFY,hYF]
    exact hl
end Go.Am
