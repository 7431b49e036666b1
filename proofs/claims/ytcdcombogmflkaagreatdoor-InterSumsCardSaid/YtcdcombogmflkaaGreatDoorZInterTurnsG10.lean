/- Contracts and plain laws that the law InterTurnsG needs, part 10. -/
import Derived.Test.YtcdcombogmflkaaGreatDoorZInterTurnsG9
namespace Go.Am
open Go Go.Proofs
set_option linter.unusedVariables false
set_option linter.unusedSimpArgs false
variable {w0:World}
attribute [local irreducible] AWP aqo
attribute [local congr] aqp
theorem Rank5_ret {p:Int} {n:Nat} {cols:List (List Int)} (hp:p<=100) (hmay:mayE p n cols=true):Ret Tryz.prog w0 149 [I p,I n,rows cols] (I (accL p n cols).length):=by
 obtain ⟨m,e,hn,hm,hpr,hok⟩:=mq7 hmay
 obtain rfl:n=m:=by omega
 have c1:=may5_ret (w0:=w0) (p:=p) (n:=n) (cols:=cols) hp (by omega) (fun c hc=>by have:=(hok c hc).len;omega)
 rw [hmay] at c1
 have c2:=rank5_ret (w0:=w0) hp hmay
 intro H
 refine aqf Tryz.func149 rfl Tryz.ntmps149 (ts:=[6]) rfl (by simp) (by kernel_rfl) ?_
 repeat'(with_reducible first|(refine aqd (hK _ _ ?_);clear hK K)|refine vr [] fun K hK=>?_|((first|refine aqa fun K' hK'=>?_|refine aqb fun K' B hK' hB=>?_);simp[rows];repeat'(first|((first|refine hK' ?_|refine hB ?_);clear hK' hB K' B)|(apply hK';clear hK' K')|refine Ret.use c1 ?_|refine Ret.use c2 ?_|fail))|apply aqc|refine sp ?_|fail)
 exact ⟨by simp,.refl _⟩
section
variable {t n a b:Int} {l:List (List Int)} {xs:List Mtd}
theorem rkM_plain {s:FS} (hs:s⊆FS.upTo n.toNat) (g:¬(5<=t/\t<=9)):rkM (.mk t n a b l xs) s=(if t=1 then grR l s else if t=2 then paR (l.getD 0 []) (l.getD 1 []) 0 s else if t=3 then trR l s else if t=4 then Clo.rk (LinC b a.toNat l) s else min s.card a.toNat):=by
 rw [rkM,eqv hs,if_neg (by omega),if_neg (by omega),if_neg (by omega),if_neg (by omega),if_neg (by omega)]
end
theorem capI_iff {cls ks:List Int} {s:FS}:∀ {c:Int},capI cls ks c s↔∀ i (h:i<ks.length),(aq2 cls (c+i) s).card<=ks[i].toNat:=by
 induction ks with
 | nil=>intro c;simp [capI]
 | cons k ks ih=>
  intro c
  rw [capI,ih]
  constructor
  ·rintro ⟨h1,h2⟩ i hi
   cases i with
   | zero=>simpa using h1
   | succ i=>
    have:=h2 i (by simpa using hi)
    rw [show c+((i+1:Nat):Int)=c+1+i by omega]
    simpa using this
  ·intro h
   refine ⟨by have:=h 0 (by simp);simpa using this,fun i hi=> ?_⟩
   have:=h (i+1) (by simpa using hi)
   rw [show c+((i+1:Nat):Int)=c+1+i by omega] at this
   simpa using this
set_option maxRecDepth 20000 in
set_option maxHeartbeats 4000000 in
theorem plain10_ret {t n a b:Int} {l:List (List Int)} {xs:List Mtd} (h:OkT (.mk t n a b l xs)) (g:¬(5<=t/\t<=9)) (s:FS) (hs:s⊆FS.upTo n.toNat):
  Ret Tryz.prog w0 113 [mtA (.mk t n a b l xs),ints s.l] (B (decide (Rk.Ind (rkM (.mk t n a b l xs)) s))):=by
 have hrk:=rkM_plain (a:=a) (b:=b) (l:=l) (xs:=xs) hs g
 have hp:=h.plain g
 have hn:=h.n0
 have hsl:=bqt hs
 have hsb:∀ x,x∈s->0<=x/\x<n:=fun x hx=>by have:=FS.mem_upTo.1 (hs x hx);omega
 unfold bqz at hp
 simp only [Bool.and_eq_true,decide_eq_true_eq] at hp
 obtain ⟨⟨hx0,hb0⟩,hp⟩:=hp
 obtain ⟨v,hv0⟩:∃ v,decide (Rk.Ind (rkM (.mk t n a b l xs)) s)=v:=⟨_,rfl⟩
 rw [hv0]
 have hv:v=true↔rkM (.mk t n a b l xs) s=s.card:=by rw [<-hv0,decide_eq_true_iff];exact Iff.rfl
 clear hv0
 rw [hrk] at hv
 clear hrk
 have hx0:xs=[]:=List.length_eq_zero_iff.1 hx0
 subst hx0
 intro H
 simp only [mtA,mtC,mtCs,List.length_nil]
 refine aqf Tryz.func113 rfl Tryz.ntmps113 (ts:=[4]) rfl (by simp) (by kernel_rfl) ?_
 repeat'(with_reducible first|(refine sp (hK _ _ ?_);clear hK K)|refine vr [9,10] fun K hK=>?_|(refine aqa fun K' hK'=>?_;simp[rows,ints];repeat'(first|(apply hK';clear hK' K')|intro hg|fail))|refine sp ?_|fail)
 rename_i bx hb r1 hg1 r2
 have h21:r2≠r1:=by rintro rfl;simp at hg
 have h2b:r2≠bx:=by rintro rfl;simp [h21] at hg
 have hr2:H r2=none:=by simpa [h21,h2b] using hg
 have h1b:r1≠bx:=by rintro rfl;simp at hg1
 have hr1:H r1=none:=by simpa [h1b] using hg1
 clear hg hg1
 obtain ⟨H1,hH1⟩:∃ H1,H1=upd H bx (some (.box [I t,I n,I a,I b,rows l,.sl [] 0])):=⟨_,rfl⟩
 have hsub:Sub H H1:=by rw [hH1];exact aqh hb
 have lb:H1 bx=some (.box [I t,I n,I a,I b,rows l,.sl [] 0]):=by rw [hH1,aqj]
 have n1:H1 r1=none:=by rw [hH1,aqm _ _ _ h1b];exact hr1
 have n2:H1 r2=none:=by rw [hH1,aqm _ _ _ h2b];exact hr2
 simp only [rows] at hH1
 rw [<-hH1]
 clear hH1 hb hr1 hr2
 have hsl':s.l.length<=64:=by omega
 have hb2:bx≠r2:=Ne.symm h2b
 have hb1:bx≠r1:=Ne.symm h1b
 have h12:r1≠r2:=Ne.symm h21
 have lb':∀ c1 c2,upd (upd H1 r1 c1) r2 c2 bx=some (.box [I t,I n,I a,I b,rows l,.sl [] 0]):=fun c1 c2=>by rw [aqm _ _ _ (Ne.symm h2b),aqm _ _ _ (Ne.symm h1b)];exact lb
 have hsb2:∀ c1 c2,Sub H1 (upd (upd H1 r1 c1) r2 c2):=fun c1 c2=>((Sub.refl _).upd n1 _).upd n2 _
 have hrl:(l.length:Int)=n\/t=0\/t=2:=by
  by_cases e0:t=0
  ·exact .inr (.inl e0)
  by_cases e2:t=2
  ·exact .inr (.inr e2)
  rw [if_neg e0,if_neg e2] at hp
  split at hp
  ·simp only [Bool.and_eq_true,decide_eq_true_eq] at hp;exact .inl hp.2
  ·split at hp
   ·simp only [Bool.and_eq_true,decide_eq_true_eq] at hp;exact .inl hp.1
   ·split at hp
    ·simp only [Bool.and_eq_true,decide_eq_true_eq] at hp;exact .inl hp.1
    ·simp at hp
 by_cases e1:t=1
 ·subst e1
  have hln:(l.length:Int)=n:=by omega
  simp only [show ¬(1:Int)=0 by omega,if_false,if_true,Bool.and_eq_true,decide_eq_true_eq,List.all_eq_true,numB] at hp
  simp only [if_true] at hv
  obtain ⟨⟨hrow,ha1⟩,_⟩:=hp
  have hedge:∀ y,y∈s->∃ u w,(∀ h,l[y.toNat]'h=[u,w])/\edgF l y=[(u,w)]/\0<=u/\u<a/\0<=w/\w<a:=fun y hy=>by
   have hyb:=hsb y hy
   have hyl:y.toNat<l.length:=by omega
   obtain ⟨k1,k2⟩:=hrow _ (List.getElem_mem hyl)
   obtain ⟨r,hr⟩:∃ r,l[y.toNat]=r:=⟨_,rfl⟩
   rw [hr] at k1 k2
   match r,k2 with
   | [u,w],_=>
    have b1:=k1 u (by simp)
    have b2:=k1 w (by simp)
    refine ⟨u,w,fun _=>hr,?_,by omega,by omega,by omega,by omega⟩
    rw [edgF,if_pos hyb.1,List.getElem?_eq_getElem hyl,hr]
    rfl
  have hel:∀ q,((s.l.take q).flatMap (edgF l)).length=(s.l.take q).length:=fun q=>by
   have:∀ ys:List Int,(∀ y∈ys,y∈s)->(ys.flatMap (edgF l)).length=ys.length:=by
    intro ys
    induction ys with
    | nil=>intro _;rfl
    | cons y ys ih=>
     intro hy
     obtain ⟨u,w,_,e,_⟩:=hedge y (hy y (by simp))
     rw [List.flatMap_cons,List.length_append,e,ih fun z hz=>hy z (by simp [hz])]
     simp;omega
   exact this _ fun y hy=>bqa.1 (List.mem_of_mem_take hy)
  obtain ⟨H2,hH2⟩:∃ H2,H2=upd H1 r2 (some (.arr 1 26 [] 0)):=⟨_,rfl⟩
  have lb2:H2 bx=some (.box [I 1,I n,I a,I b,rows l,.sl [] 0]):=by rw [hH2,aqm _ _ _ hb2];exact lb
  have m1:H2 r1=none:=by rw [hH2,aqm _ _ _ h12];exact n1
  have hsub2:Sub H H2:=by rw [hH2];exact hsub.trans (aqh n2)
  have hsw:∀ c,upd (upd H1 r1 c) r2 (some (.arr 1 26 [] 0))=upd H2 r1 c:=fun c=>by rw [hH2,aq9 _ _ _ h12]
  rw [hsw]
  refine aqi (fun env h=>∃ (q:Nat) (es:List (Int×Int)),q<=s.l.length/\es=(s.l.take q).flatMap (edgF l)/\h=upd H2 r1 (some (.arr 2 55 (es.flatMap fun e=>[I e.1,I e.2]) es.length))/\env 7=I q/\env 5= .ref r1 0 es.length es.length/\env 1=ints s.l/\env 2= .ptr bx 0 0) (fun env _=>s.l.length-natA (env 7)) ?_ ?_
  ·exact ⟨0,[],by omega,by simp,by simp,by simp,by simp,by simp [ints],by simp⟩
  rintro env h ⟨q,es,hq,hes,rfl,h7,h5,h1,h2⟩
  have hnat:natA (env 7)=q:=by simp [h7]
  rw [hnat];clear hnat
  have hesl:es.length=q:=by rw [hes,hel,List.length_take];omega
  by_cases g1:q<s.l.length
  ·obtain ⟨y,hy⟩:∃ y,s.l[q]=y:=⟨_,rfl⟩
   have hyS:y∈s:=by rw [<-bqa,<-hy];exact List.getElem_mem _
   have hym:=hsb y hyS
   have htk:s.l.take (q+1)=s.l.take q++[y]:=by rw [List.take_succ_eq_append_getElem g1,hy]
   have hgy:∀ h,s.l[q]'h=y:=fun _=>hy
   have hgo:s.l[q]? =some y:=by simp [g1,hy]
   have hyt:y.toNat<l.length:=by omega
   obtain ⟨u,w,q1,q2,_⟩:=hedge y hyS
   have q1o:l[y.toNat]? =some [u,w]:=by rw [List.getElem?_eq_getElem hyt,q1]
   have hnew:es++[(u,w)]=(s.l.take (q+1)).flatMap (edgF l):=by rw [htk,List.flatMap_append,<-hes];simp [q2]
   repeat'(with_reducible first|(refine sp (hK _ _ ?_);clear hK K)|refine vr [] fun K hK=>?_|(refine vd [] [] mixed fun K hK=>?_)|((first|refine aqa fun K' hK'=>?_|refine aqb fun K' B hK' hB=>?_|refine aqn fun K' hK'=>?_|(apply aqk;refine aqe rfl fun K' hK'=>?_));simp[h7,h5,h1,h2,ints,rows,g1,hgy,hgo,hym.1,hyt,q1,q1o,lb2,hb2,hb1,h12];repeat'(first|((first|refine hK' ?_|refine hB ?_);clear hK' hB K' B)|(apply hK';clear hK' K')|refine And.intro ?_ ?_|(clear hK' K';omega)))|refine sp ?_|fail)
   refine ⟨⟨q+1,es++[(u,w)],by omega,hnew,?_,by simp,by simp,by simp [h1,ints],by simp [h2]⟩,by simp;omega⟩
   simp [aqx]
  ·rw [List.take_of_length_le (by omega)] at hes
   have hgr:es=grE l s:=hes
   have hcard:es.length=s.card:=by rw [hesl];show q=s.l.length;omega
   have hvalid:bqf a es=true:=by
    simp only [bqf,Bool.and_eq_true,decide_eq_true_eq,List.all_eq_true,cql]
    refine ⟨⟨⟨ha1,by omega⟩,by omega⟩,fun e he=> ?_⟩
    rw [hgr,gq0] at he
    obtain ⟨y,hy,he⟩:=he
    obtain ⟨u,w,_,q2,q3⟩:=hedge y hy
    rw [q2,List.mem_singleton] at he
    subst he
    simp;omega
   have c1:=forest3_ret (w0:=w0) (n:=a) (es:=es) (by omega)
   rw [hvalid] at c1
   simp only [if_true] at c1
   have hfin:decide (((aqu es).2:Int)=es.length)=v:=by
    rw [Bool.eq_iff_iff,decide_eq_true_iff,hv,hcard]
    unfold grR
    rw [<-hgr]
    omega
   rw [hfin] at c1
   refine dqk 5 h5 m1 fun env' he he2=> ?_
   rw [cut_pairs es rfl] at he
   have g7:env' 7=I q:=by rw [he2 _ (by decide),h7]
   have g1':env' 1=ints s.l:=by rw [he2 _ (by decide),h1]
   have g2:env' 2= .ptr bx 0 0:=by rw [he2 _ (by decide),h2]
   repeat'(with_reducible first|(refine sp (hK _ _ ?_);clear hK K)|refine vr [] fun K hK=>?_|((first|refine aqa fun K' hK'=>?_|refine aqb fun K' B hK' hB=>?_|(apply aqk;refine aqe rfl fun K' hK'=>?_));simp[g7,g1',g2,he,ints,rows,g1,lb2,hb2,hb1];repeat'(first|((first|refine hK' ?_|refine hB ?_);clear hK' hB K' B)|(apply hK';clear hK' K')|refine Ret.use c1 ?_|fail))|apply aqc|refine sp ?_|fail)
   exact ⟨by simp,hsub2⟩
 have e1':(t=1)=False:=eq_false e1
 obtain ⟨H3,hH3⟩:∃ H3,H3=upd H1 r1 (some (.arr 2 55 [] 0)):=⟨_,rfl⟩
 have lb3:H3 bx=some (.box [I t,I n,I a,I b,rows l,.sl [] 0]):=by rw [hH3,aqm _ _ _ hb1];exact lb
 have m2:H3 r2=none:=by rw [hH3,aqm _ _ _ h21];exact n2
 have hsub3:Sub H H3:=by rw [hH3];exact hsub.trans (aqh n1)
 rw [<-hH3]
 clear hH3
 by_cases e4:t=4
 ·have e4':(t=4)=True:=eq_true e4
  have hln:(l.length:Int)=n:=by omega
  rw [if_neg (by omega),if_neg e1,if_neg (by omega),if_neg (by omega),if_pos e4] at hp
  simp only [Bool.and_eq_true,decide_eq_true_eq] at hp
  rw [if_neg e1,if_neg (by omega),if_neg (by omega),if_pos e4] at hv
  have hb100:b<=100:=by obtain ⟨_,_,_,hb,_⟩:=h.nice;exact hb
  have hmE:=hp.2
  have hat:(a.toNat:Int)=a:=by omega
  refine aqi (fun env h=>∃ (q:Nat) (cs:List (List Int)),q<=s.l.length/\cs=(s.l.take q).map (fun x=>l.getD x.toNat [])/\h=upd H3 r2 (some (.arr 1 26 (cs.map ints) cs.length))/\env 7=I q/\env 6= .ref r2 0 cs.length cs.length/\env 1=ints s.l/\env 2= .ptr bx 0 0) (fun env _=>s.l.length-natA (env 7)) ?_ ?_
  ·exact ⟨0,[],by omega,by simp,by simp,by simp,by simp,by simp [ints],by simp⟩
  rintro env h ⟨q,cs,hq,hcs,rfl,h7,h6,h1,h2⟩
  have hnat:natA (env 7)=q:=by simp [h7]
  rw [hnat];clear hnat
  have hcl:cs.length=q:=by rw [hcs,List.length_map,List.length_take];omega
  by_cases g1:q<s.l.length
  ·obtain ⟨y,hy⟩:∃ y,s.l[q]=y:=⟨_,rfl⟩
   have hyS:y∈s:=by rw [<-bqa,<-hy];exact List.getElem_mem _
   have hym:=hsb y hyS
   have htk:s.l.take (q+1)=s.l.take q++[y]:=by rw [List.take_succ_eq_append_getElem g1,hy]
   have hgy:∀ h,s.l[q]'h=y:=fun _=>hy
   have hgo:s.l[q]? =some y:=by simp [g1,hy]
   have hyt:y.toNat<l.length:=by omega
   obtain ⟨c,hc⟩:∃ c,l[y.toNat]=c:=⟨_,rfl⟩
   have q1:∀ h,l[y.toNat]'h=c:=fun _=>hc
   have q1o:l[y.toNat]? =some c:=by rw [List.getElem?_eq_getElem hyt,hc]
   have hnew:cs++[c]=(s.l.take (q+1)).map (fun x=>l.getD x.toNat []):=by rw [htk,List.map_append,<-hcs];simp [q1o]
   repeat'(with_reducible first|(refine sp (hK _ _ ?_);clear hK K)|refine vr [] fun K hK=>?_|(refine vd [] [] mixed fun K hK=>?_)|((first|refine aqa fun K' hK'=>?_|refine aqb fun K' B hK' hB=>?_|refine aqn fun K' hK'=>?_|(apply aqk;refine aqe rfl fun K' hK'=>?_));simp[h7,h6,h1,h2,ints,rows,g1,hgy,hgo,hym.1,hyt,q1,q1o,lb3,hb2,hb1,h12,e1',e4'];repeat'(first|((first|refine hK' ?_|refine hB ?_);clear hK' hB K' B)|(apply hK';clear hK' K')|refine And.intro ?_ ?_|(clear hK' K';omega)))|refine sp ?_|fail)
   refine ⟨⟨q+1,cs++[c],by omega,hnew,?_,by simp,by simp,by simp [h1,ints],by simp [h2]⟩,by simp;omega⟩
   simp [aqx,ints]
  ·rw [List.take_of_length_le (by omega)] at hcs
   have hcard:cs.length=s.card:=by rw [hcl];show q=s.l.length;omega
   have hmc:mayE b a.toNat cs=true:=by
    rw [hat]
    simp only [mayE,Bool.and_eq_true,decide_eq_true_eq,List.all_eq_true] at hmE ⊢
    refine ⟨⟨hmE.1.1,by omega⟩,fun c hc=> ?_⟩
    rw [hcs,List.mem_map] at hc
    obtain ⟨y,hy,rfl⟩:=hc
    have:=hsb y (bqa.1 hy)
    have hyt:y.toNat<l.length:=by omega
    refine hmE.2 _ ?_
    rw [List.getD_eq_getElem?_getD,List.getElem?_eq_getElem hyt]
    exact List.getElem_mem hyt
   have c1:=Rank5_ret (w0:=w0) (n:=a.toNat) hb100 hmc
   rw [hat] at c1
   have hinv:=inv_ex hb100 (by simp only [mayE,Bool.and_eq_true] at hmE;exact hmE.1.1.1.1)
   have har:=jqv (n:=a.toNat) hinv l s.l fun x hx=>by have:=hsb x (bqa.1 hx);omega
   rw [<-hcs,show FS.ofList s.l=s from FS.ext fun x=>by rw [FS.mem_ofList];exact Iff.rfl] at har
   have hfin:decide (((accL b a.toNat cs).length:Int)=s.l.length)=v:=by
    rw [Bool.eq_iff_iff,decide_eq_true_iff,hv,har]
    show ((Clo.rk (LinC b a.toNat l) s:Nat):Int)=(s.card:Nat)↔_
    omega
   refine dqk 6 h6 m2 fun env' he he2=> ?_
   rw [show cut 1 (cs.map ints) 0 cs.length=rows cs from bqw _ _] at he
   have g7:env' 7=I q:=by rw [he2 _ (by decide),h7]
   have g1':env' 1=ints s.l:=by rw [he2 _ (by decide),h1]
   have g2:env' 2= .ptr bx 0 0:=by rw [he2 _ (by decide),h2]
   have e2':(t=2)=False:=eq_false (by omega)
   have e3':(t=3)=False:=eq_false (by omega)
   repeat'(with_reducible first|(refine sp (hK _ _ ?_);clear hK K)|refine vr [] fun K hK=>?_|((first|refine aqa fun K' hK'=>?_|refine aqb fun K' B hK' hB=>?_|(apply aqk;refine aqe rfl fun K' hK'=>?_));simp[g7,g1',g2,he,ints,rows,g1,lb3,e1',e4',e2',e3'];repeat'(first|((first|refine hK' ?_|refine hB ?_);clear hK' hB K' B)|(apply hK';clear hK' K')|refine Ret.use c1 ?_|fail))|apply aqc|refine sp ?_|fail)
   exact ⟨by simpa using hfin,hsub3⟩
 have e4':(t=4)=False:=eq_false e4
 obtain ⟨H4,hH4⟩:∃ H4,H4=upd H3 r2 (some (.arr 1 26 [] 0)):=⟨_,rfl⟩
 have lb4:H4 bx=some (.box [I t,I n,I a,I b,rows l,.sl [] 0]):=by rw [hH4,aqm _ _ _ hb2];exact lb3
 have hsub4:Sub H H4:=by rw [hH4];exact hsub3.trans (aqh m2)
 rw [<-hH4]
 clear hH4
 refine aqi (fun env h=>h=H4/\env 7=I 0/\env 1=ints s.l/\env 2= .ptr bx 0 0) (fun env _=>0) ?_ ?_
 ·exact ⟨rfl,by simp,by simp [ints],by simp⟩
 rintro env hh ⟨rfl,h7,h1,h2⟩
 by_cases e2:t=2
 ·have e2':(t=2)=True:=eq_true e2
  rw [if_neg (by omega),if_neg e1,if_pos e2] at hp
  rw [if_neg e1,if_pos e2] at hv
  simp only [Bool.and_eq_true,decide_eq_true_eq] at hp
  match l,hp with
  | [cls,caps],hp=>
   have f0:([cls,caps]:List (List Int)).getD 0 []=cls:=rfl
   have f1:([cls,caps]:List (List Int)).getD 1 []=caps:=rfl
   rw [f0,f1] at hp hv
   simp only [numB,Bool.and_eq_true,decide_eq_true_eq,List.all_eq_true] at hp
   obtain ⟨⟨_,hc1,hc2⟩,hk1,hk2⟩:=hp
   have hcl:∀ x,x∈s->0<=x/\x<cls.length:=fun x hx=>by have:=hsb x hx;omega
   have hip:=ind_part cls caps 0 s fun x hx=>by
    have h1:=hcl x hx
    have h2:x.toNat<cls.length:=by omega
    have h3:=hc1 _ (List.getElem_mem h2)
    exact ⟨cls[x.toNat],⟨h1.1,List.getElem?_eq_getElem h2⟩,h3.1,by omega⟩
   rw [hip.2,capI_iff] at hv
   have cc:=fun c=>count10_ret (w0:=w0) (cls:=cls) (s:=s) (c:=c) hcl (by omega)
   by_cases g1:0<s.l.length
   all_goals
    repeat'(with_reducible first|(refine sp (hK _ _ ?_);clear hK K)|refine vr [] fun K hK=>?_|((first|refine aqa fun K' hK'=>?_|refine aqb fun K' B hK' hB=>?_|(apply aqk;refine aqe rfl fun K' hK'=>?_));simp[h7,h1,h2,ints,rows,g1,lb4,e1',e4',e2'];repeat'(first|((first|refine hK' ?_|refine hB ?_);clear hK' hB K' B)|(apply hK';clear hK' K')|fail))|refine sp ?_|fail)
    refine aqi (fun env h'=>∃ q:Nat,q<=caps.length/\hh=h'/\(∀ i (h:i<caps.length),i<q->(aq2 cls (0+i) s).card<=caps[i].toNat)/\env 8=I q/\env 1=ints s.l/\env 2= .ptr bx 0 0) (fun env _=>caps.length-natA (env 8)) ?_ ?_
    ·exact ⟨0,by omega,rfl,fun i h h0=>by omega,by simp,by simp [h1,ints],by simp [h2]⟩
    clear h7 h1 h2 g1
    rintro env h' ⟨q,hq,rfl,hf,h8,h1,h2⟩
    have hnat:natA (env 8)=q:=by simp [h8]
    rw [hnat];clear hnat
    by_cases g1:q<caps.length
    ·obtain ⟨k,hk⟩:∃ k,caps[q]=k:=⟨_,rfl⟩
     have hgk:∀ h,caps[q]'h=k:=fun _=>hk
     have hgo:caps[q]? =some k:=by simp [g1,hk]
     have hkb:=hk1 k (by rw [<-hk];exact List.getElem_mem _)
     have ccq:=cc q
     have g1':(q:Int)<a:=by omega
     have e0:(0+(q:Int))=q:=by omega
     obtain ⟨d,hd⟩:∃ d,(aq2 cls q s).card=d:=⟨_,rfl⟩
     rw [hd] at ccq
     by_cases g2:k<d
     ·have hvf:v=false:=by
       rw [Bool.eq_false_iff];intro hvt
       have:=hv.1 hvt q g1
       rw [e0,hd,hk] at this
       omega
      repeat'(with_reducible first|(refine sp (hK _ _ ?_);clear hK K)|((fail_if_success(refine aql 15 ?_));(fail_if_success(refine(?_:AWP _ _ _ (Code.region 15 _ _) _ _ _)));refine vr [] fun K hK=>?_)|((first|refine aqa fun K' hK'=>?_|refine aqb fun K' B hK' hB=>?_);simp[h8,h1,h2,ints,rows,g1',lb4];repeat'(first|((first|refine hK' ?_|refine hB ?_);clear hK' hB K' B)|(apply hK';clear hK' K')|fail))|((fail_if_success(refine aql 15 ?_));refine sp ?_)|fail)
      refine bqu mixed [] [81,82,83,84,88,89,90,91,93,94] [0,1,2,3,4,5,7,8,9,10,11,12,13,6,14] (by kernel_rfl) (fun K hK=> ?_)
      simp only [List.filterMap_cons,List.filterMap_nil,List.getElem?_cons_succ,List.getElem?_cons_zero]
      repeat'(with_reducible first|(refine sp (hK _ _ ?_);clear hK K)|refine vr [] fun K hK=>?_|((first|refine aqa fun K' hK'=>?_|refine aqb fun K' B hK' hB=>?_|refine aqn fun K' hK'=>?_);simp[h8,h1,h2,ints,rows,g1',hgk,hgo,g1,lb4,g2,boxes,Blk.isArr,aqg.refl];repeat'(first|((first|refine hK' ?_|refine hB ?_);clear hK' hB K' B)|(apply hK';clear hK' K')|(refine Ret.use ccq ?_;try simp[h8,h1,h2,ints,rows,g1',hgk,hgo,g1,lb4,g2,boxes,Blk.isArr,aqg.refl])|fail))|apply aqc|refine sp ?_|fail)
      exact ⟨by simp [hvf],hsub4⟩
     ·repeat'(with_reducible first|(refine sp (hK _ _ ?_);clear hK K)|((fail_if_success(refine aql 15 ?_));(fail_if_success(refine(?_:AWP _ _ _ (Code.region 15 _ _) _ _ _)));refine vr [] fun K hK=>?_)|((first|refine aqa fun K' hK'=>?_|refine aqb fun K' B hK' hB=>?_);simp[h8,h1,h2,ints,rows,g1',lb4];repeat'(first|((first|refine hK' ?_|refine hB ?_);clear hK' hB K' B)|(apply hK';clear hK' K')|fail))|((fail_if_success(refine aql 15 ?_));refine sp ?_)|fail)
      refine bqu mixed [] [81,82,83,84,88,89,90,91,93,94] [0,1,2,3,4,5,7,8,9,10,11,12,13,6,14] (by kernel_rfl) (fun K hK=> ?_)
      simp only [List.filterMap_cons,List.filterMap_nil,List.getElem?_cons_succ,List.getElem?_cons_zero]
      repeat'(with_reducible first|(refine sp (hK _ _ ?_);clear hK K)|refine vr [] fun K hK=>?_|((first|refine aqa fun K' hK'=>?_|refine aqb fun K' B hK' hB=>?_|refine aqn fun K' hK'=>?_);simp[h8,h1,h2,ints,rows,g1',hgk,hgo,g1,lb4,g2,boxes,Blk.isArr,aqg.refl];repeat'(first|((first|refine hK' ?_|refine hB ?_);clear hK' hB K' B)|(apply hK';clear hK' K')|(refine Ret.use ccq ?_;try simp[h8,h1,h2,ints,rows,g1',hgk,hgo,g1,lb4,g2,boxes,Blk.isArr,aqg.refl])|refine And.intro ?_ ?_|(clear hK' K';omega)))|refine sp ?_|fail)
      refine ⟨⟨q+1,by omega,rfl,fun i hi hiq=> ?_,by simp,by simp [h1,ints],by simp [h2]⟩,by simp;omega⟩
      by_cases ei:i=q
      ·subst ei;rw [e0,hd,hk];omega
      ·exact hf i hi (by omega)
    ·have g1':¬(q:Int)<a:=by omega
     have hvt:v=true:=hv.2 fun i hi=>hf i hi (by omega)
     repeat'(with_reducible first|(refine sp (hK _ _ ?_);clear hK K)|refine vr [] fun K hK=>?_|((first|refine aqa fun K' hK'=>?_|refine aqb fun K' B hK' hB=>?_);simp[h8,h1,h2,ints,rows,g1',lb4];repeat'(first|((first|refine hK' ?_|refine hB ?_);clear hK' hB K' B)|(apply hK';clear hK' K')|fail))|apply aqc|refine sp ?_|fail)
     exact ⟨by simp [hvt],hsub4⟩
 have e2':(t=2)=False:=eq_false e2
 by_cases e3:t=3
 ·have e3':(t=3)=True:=eq_true e3
  have hln:(l.length:Int)=n:=by omega
  rw [if_neg (by omega),if_neg e1,if_neg e2,if_pos e3] at hp
  rw [if_neg e1,if_neg e2,if_pos e3] at hv
  simp only [Bool.and_eq_true,decide_eq_true_eq] at hp
  obtain ⟨m,hm,hG⟩:=jqr.1 hp.2
  have hrs:∀ x:Int,aq3 (l.getD x.toNat [])/\(l.getD x.toNat []).length<=64:=fun x=>by
   by_cases hx:x.toNat<l.length
   ·rw [List.getD_eq_getElem?_getD,List.getElem?_eq_getElem hx,Option.getD_some]
    have:=hp.2
    simp only [mayM,ptsB,Bool.and_eq_true,List.all_eq_true,decide_eq_true_eq,aqs] at this
    obtain ⟨q1,q2⟩:=this.2 _ (List.getElem_mem hx)
    refine ⟨q1,?_⟩
    have:=jq0 (n:=64) q1.up fun y hy=>⟨(q1.ok y hy).1,by have:=q2 y hy;omega⟩
    exact this
   ·rw [List.getD_eq_getElem?_getD,List.getElem?_eq_none (by omega)]
    exact ⟨.nil,by simp⟩
  have c1:=mq8 (w0:=w0) (adj:=l) (fun x=>(hrs x).1) (fun x=>(hrs x).2) s.l [] (fun x hx=>by have:=hsb x (bqa.1 hx);omega) (by omega) .nil (by simp;omega)
  have hfin:matB l s.l []=v:=by
   rw [Bool.eq_iff_iff,hv,ind_trans (fun x hx=>(hsb x hx).1),matB_iff (fun x=>(hrs x).1) _ _ s.nodup .nil]
  rw [hfin] at c1
  simp only [rows,ints,List.map_nil,List.length_nil] at c1
  by_cases g1:0<s.l.length
  all_goals
   repeat'(with_reducible first|(refine sp (hK _ _ ?_);clear hK K)|refine vr [] fun K hK=>?_|((first|refine aqa fun K' hK'=>?_|refine aqb fun K' B hK' hB=>?_|(apply aqk;refine aqe rfl fun K' hK'=>?_));simp[h7,h1,h2,ints,rows,g1,lb4,e1',e4',e2',e3'];repeat'(first|((first|refine hK' ?_|refine hB ?_);clear hK' hB K' B)|(apply hK';clear hK' K')|refine Ret.use c1 ?_|fail))|apply aqc|refine sp ?_|fail)
   exact ⟨by simp,hsub4⟩
 ·have e3':(t=3)=False:=eq_false e3
  rw [if_neg e1,if_neg e2,if_neg e3,if_neg e4] at hv
  have hfin:decide ((s.l.length:Int)<=a)=v:=by
   rw [Bool.eq_iff_iff,decide_eq_true_iff,hv]
   show ((s.card:Nat):Int)<=a↔_
   omega
  by_cases g1:0<s.l.length
  all_goals
   repeat'(with_reducible first|(refine sp (hK _ _ ?_);clear hK K)|refine vr [] fun K hK=>?_|((first|refine aqa fun K' hK'=>?_|refine aqb fun K' B hK' hB=>?_|(apply aqk;refine aqe rfl fun K' hK'=>?_));simp[h7,h1,h2,ints,rows,g1,lb4,e1',e4',e2',e3'];repeat'(first|((first|refine hK' ?_|refine hB ?_);clear hK' hB K' B)|(apply hK';clear hK' K')|fail))|apply aqc|refine sp ?_|fail)
   exact ⟨by simpa using hfin,hsub4⟩
theorem may2_at {l:List Int} {r:Nat} {H:Heap} (hs:aq3 l) (hl:l.length<=1000000) (hr:H r=some (.arr 1 3 (l.map I) l.length)):bqp Tryz.prog w0 39 [.ref r 0 l.length l.length] (B true) H:=by
 refine .of ?_
 refine aqf Tryz.func39 rfl Tryz.ntmps39 (ts:=[2]) rfl (by simp) (by kernel_rfl) ?_
 repeat'(with_reducible first|(refine sp (hK _ _ ?_);clear hK K)|refine vr [] fun K hK=>?_|(refine aqa fun K' hK'=>?_;simp;repeat'(first|(apply hK';clear hK' K')|fail))|refine sp ?_|fail)
 refine aqi (fun env h=>∃ k:Nat,k<=l.length/\h=H/\env 3=I k/\env 0= .ref r 0 l.length l.length) (fun env _=>l.length-natA (env 3)) ?_ ?_
 ·exact ⟨0,by omega,rfl,by simp,by simp⟩
 rintro env h ⟨k,hk,rfl,h3,h0⟩
 have hnat:natA (env 3)=k:=by simp [h3]
 rw [hnat];clear hnat
 by_cases hlt:k<l.length
 ·obtain ⟨x,hx⟩:∃ x,l[k]=x:=⟨_,rfl⟩
  have hgx:∀ h,l[k]'h=x:=fun _=>hx
  have hgo:l[k]? =some x:=by simp [hlt,hx]
  have hb:=hs.ok x (by rw [<-hx];exact List.getElem_mem _)
  have b1:¬x<0:=by omega
  have b2:¬1099511627776<x:=by omega
  by_cases h00:k=0
  ·subst h00
   repeat'(with_reducible first|(refine sp (hK _ _ ?_);clear hK K)|refine vr [] fun K hK=>?_|(refine vd [] [] mixed fun K hK=>?_)|((first|refine aqa fun K' hK'=>?_|refine aqb fun K' B hK' hB=>?_|refine aqn fun K' hK'=>?_|(apply bq8;refine aqt rfl fun K' hK'=>?_));simp[h3,h0,hlt,hgx,hgo,hr,b1,b2];repeat'(first|((first|refine hK' ?_|refine hB ?_);clear hK' hB K' B)|(apply hK';clear hK' K')|fail))|refine sp ?_|fail)
   exact ⟨⟨1,by omega,rfl,by simp,by simp [h0]⟩,by simp;omega⟩
  ·have hk1:k-1<l.length:=by omega
   obtain ⟨y,hy⟩:∃ y,l[k-1]=y:=⟨_,rfl⟩
   have hgy:∀ h,l[k-1]'h=y:=fun _=>hy
   have hgp:l[k-1]? =some y:=by simp [hk1,hy]
   have b3:¬x<=y:=by
    have:=List.pairwise_iff_getElem.1 hs.up (k-1) k hk1 hlt (by omega)
    omega
   have b4:0<k:=by omega
   have b5:((k:Int)-1).toNat=k-1:=by omega
   have b6:(0:Int)<=k-1:=by omega
   repeat'(with_reducible first|(refine sp (hK _ _ ?_);clear hK K)|refine vr [] fun K hK=>?_|(refine vd [] [] mixed fun K hK=>?_)|((first|refine aqa fun K' hK'=>?_|refine aqb fun K' B hK' hB=>?_|refine aqn fun K' hK'=>?_|(apply bq8;refine aqt rfl fun K' hK'=>?_));simp[h3,h0,hlt,hgx,hgo,hr,b1,b2,b3,b4,b5,b6,hk1,hgy,hgp];repeat'(first|((first|refine hK' ?_|refine hB ?_);clear hK' hB K' B)|(apply hK';clear hK' K')|refine And.intro ?_ ?_|(clear hK' K';omega)))|refine sp ?_|fail)
   exact ⟨⟨k+1,by omega,rfl,by simp,by simp [h0]⟩,by simp;omega⟩
 ·repeat'(with_reducible first|(refine sp (hK _ _ ?_);clear hK K)|refine vr [] fun K hK=>?_|((first|refine aqa fun K' hK'=>?_|refine aqb fun K' B hK' hB=>?_);simp[h3,h0,hlt,hr];repeat'(first|((first|refine hK' ?_|refine hB ?_);clear hK' hB K' B)|(apply hK';clear hK' K')|fail))|apply aqc|refine sp ?_|fail)
  exact ⟨by simp,.refl _⟩
theorem union2_at {a b:List Int} {r:Nat} {H:Heap} (ha:aq3 a) (hb:aq3 b) (hal:a.length<=1000000) (hbl:b.length<=1000000) (hr:H r=some (.arr 1 3 (a.map I) a.length)):bqp Tryz.prog w0 48 [.ref r 0 a.length a.length,ints b] (ints (bql a b)) H:=by
 refine .of ?_
 have hab:jqg (a++b):=by simp;omega
 have c1:=may2_at (w0:=w0) ha hal hr
 have c2:=cqo (w0:=w0) (l:=b) (by omega)
 rw [aqs.2 hb] at c2
 have hu:bql a b=cq3 (a++b):=by rw [bql,aqs.2 ha,aqs.2 hb];rfl
 rw [hu]
 refine aqf Tryz.func48 rfl Tryz.ntmps48 (ts:=[4]) rfl (by simp) (by kernel_rfl) ?_
 repeat'(first|(with_reducible (refine aqd (hK _ _ ?_);clear hK K))|(with_reducible refine vr [13] fun K hK=>?_)|((with_reducible first|refine aqa fun K' hK'=>?_|refine aqb fun K' B hK' hB=>?_|(apply aqk;refine aqe rfl fun K' hK'=>?_));simp[ints,hr];repeat'(first|(with_reducible first|((first|refine hK' ?_|refine hB ?_);clear hK' hB K' B)|(apply hK';clear hK' K')|refine Ret.use c2 ?_)|((with_reducible refine bqp.use c1 ?_);try simp[ints,hr])|(with_reducible intro hg)|fail))|(with_reducible refine sp ?_)|fail)
 rename_i q
 have hq:H q=none:=hg
 clear hg
 have hrq:r≠q:=by rintro rfl;rw [hr] at hq;cases hq
 simp only [if_neg hrq]
 simp
 refine ⟨by omega,by omega,?_⟩
 with_reducible refine hK' _ _ ?_
 clear hK' K'
 have c3:=sort2_ret (w0:=w0) hab
 repeat'(first|(with_reducible (refine aqd (hK _ _ ?_);clear hK K))|((with_reducible refine aqa fun K' hK'=>?_);simp[ints,hr,aq7];repeat'(first|(with_reducible (apply hK';clear hK' K'))|((with_reducible refine kq0 ?_);try simp[ints,hr,aq7])|((with_reducible refine Ret.use_eq c3 (by simp [ints]) ?_);try simp[ints,hr,aq7])|(with_reducible refine And.intro ?_ ?_)|(clear hK' K';omega)))|(with_reducible first|apply aqc|refine sp ?_)|fail)
 exact ⟨by simp [ints],by rw [aq7 hq];exact .refl _⟩
theorem grd_snoc (r:FS->Nat) (l:List Int) (x:Int):∀ s:FS,Rk.grd r (l++[x]) s=if r (insert x (Rk.grd r l s))=(insert x (Rk.grd r l s):FS).card then insert x (Rk.grd r l s) else Rk.grd r l s:=by
 induction l with
 | nil=>intro s;rw [List.nil_append,Rk.grd,Rk.grd,Rk.grd]
 | cons y l ih=>intro s;rw [List.cons_append,Rk.grd,ih,Rk.grd]
theorem fs_snoc {s:FS} {x:Int} (h:∀ y,y∈s->y<x):(insert x s:FS).l=s.l++[x]:=by
 refine cqu (insert x s).up ?_ fun y=> ?_
 ·rw [List.pairwise_append]
  exact ⟨s.up,by simp,fun a ha b hb=>by rw [List.mem_singleton.1 hb];exact h a (bqa.1 ha)⟩
 ·rw [bqa,FS.mem_insert,List.mem_append,List.mem_singleton,bqa];exact Or.comm
theorem shf_list (f k:Int) (s:FS):(shf f k s).l=(s.l.filter fun x=>decide (f<=x/\x<f+k)).map (· - f):=by
 refine cqu (shf f k s).up ?_ fun y=> ?_
 ·rw [List.pairwise_map]
  exact (s.up.filter _).imp fun h=>by omega
 ·rw [bqa,dqi,List.mem_map]
  constructor
  ·rintro ⟨h1,h2,h3⟩
   exact ⟨y+f,by rw [List.mem_filter];exact ⟨h3,by simp;omega⟩,by omega⟩
  ·rintro ⟨z,hz,rfl⟩
   rw [List.mem_filter] at hz
   have:=hz.2
   simp at this
   exact ⟨by omega,by omega,by rw [show z-f+f=z by omega];exact hz.1⟩
theorem mqs {s:FS} {f k:Int} (hs:∀ x,x∈s->0<=x/\x<=1000) (hl:s.l.length<=1000) (hf:0<=f/\f<=1000000) (hk:0<=k/\k<=1000):Ret Tryz.prog w0 115 [ints s.l,I f,I k] (ints (shf f k s).l):=by
 intro H
 rw [shf_list]
 refine aqf Tryz.func115 rfl Tryz.ntmps115 (ts:=[6]) rfl (by simp) (by kernel_rfl) ?_ |>cq4
 repeat'(with_reducible first|(refine aqd (hK _ _ ?_);clear hK K)|refine vr [9] fun K hK=>?_|(refine aqa fun K' hK'=>?_;simp[ints];repeat'(first|(apply hK';clear hK' K')|intro hg|fail))|refine sp ?_|fail)
 rename_i r
 have hr:H r=none:=hg
 clear hg
 refine aqi (fun env h=>∃ (q:Nat) (o:List Int),q<=s.l.length/\o=((s.l.take q).filter fun x=>decide (f<=x/\x<f+k)).map (· - f)/\o.length<=q/\h=upd H r (some (.arr 1 3 (o.map I) o.length))/\env 8=I q/\env 7= .ref r 0 o.length o.length/\env 0=ints s.l/\env 1=I f/\env 2=I k) (fun env _=>s.l.length-natA (env 8)) ?_ ?_
 ·exact ⟨0,[],by omega,by simp,by simp,by simp,by simp,by simp,by simp [ints],by simp,by simp⟩
 rintro env h ⟨q,o,hq,ho,hol,rfl,h8,h7,h0,h1,h2⟩
 have hnat:natA (env 8)=q:=by simp [h8]
 rw [hnat];clear hnat
 by_cases g1:q<s.l.length
 ·obtain ⟨y,hy⟩:∃ y,s.l[q]=y:=⟨_,rfl⟩
  have hym:=hs y (by rw [<-bqa,<-hy];exact List.getElem_mem _)
  have htk:s.l.take (q+1)=s.l.take q++[y]:=by rw [List.take_succ_eq_append_getElem g1,hy]
  have hgy:∀ h,s.l[q]'h=y:=fun _=>hy
  have hgo:s.l[q]? =some y:=by simp [g1,hy]
  have hnew:((s.l.take (q+1)).filter fun x=>decide (f<=x/\x<f+k)).map (· - f)=o++if f<=y/\y<f+k then [y-f] else []:=by
   rw [htk,List.filter_append,List.map_append,<-ho]
   congr 1
   by_cases e:f<=y/\y<f+k
   ·rw [if_pos e,List.filter_cons_of_pos (by simpa using e)];rfl
   ·rw [if_neg e,List.filter_cons_of_neg (by simpa using e)];rfl
  by_cases e1:f<=y
  ·by_cases e2:y<f+k
   ·rw [if_pos ⟨e1,e2⟩] at hnew
    repeat'(with_reducible first|(refine aqd (hK _ _ ?_);clear hK K)|refine vr [] fun K hK=>?_|((first|refine aqa fun K' hK'=>?_|refine aqb fun K' B hK' hB=>?_|(apply aqk;refine aqe rfl fun K' hK'=>?_));simp[h8,h7,h0,h1,h2,ints,g1,hgy,hgo,e1,e2];repeat'(first|((first|refine hK' ?_|refine hB ?_);clear hK' hB K' B)|(apply hK';clear hK' K')|refine And.intro ?_ ?_|(clear hK' K';omega)))|refine sp ?_|fail)
    exact ⟨⟨q+1,o++[y-f],by omega,hnew.symm,by simp;omega,by simp [aqx],by simp,by simp,by simp [h0,ints],by simp [h1],by simp [h2]⟩,by simp;omega⟩
   ·rw [if_neg (fun h=>e2 h.2),List.append_nil] at hnew
    repeat'(with_reducible first|(refine aqd (hK _ _ ?_);clear hK K)|refine vr [] fun K hK=>?_|((first|refine aqa fun K' hK'=>?_|refine aqb fun K' B hK' hB=>?_|(apply aqk;refine aqe rfl fun K' hK'=>?_));simp[h8,h7,h0,h1,h2,ints,g1,hgy,hgo,e1,e2];repeat'(first|((first|refine hK' ?_|refine hB ?_);clear hK' hB K' B)|(apply hK';clear hK' K')|refine And.intro ?_ ?_|(clear hK' K';omega)))|refine sp ?_|fail)
    exact ⟨⟨q+1,o,by omega,hnew.symm,by omega,rfl,by simp,by simp [h7],by simp [h0,ints],by simp [h1],by simp [h2]⟩,by simp;omega⟩
  ·rw [if_neg (fun h=>e1 h.1),List.append_nil] at hnew
   repeat'(with_reducible first|(refine aqd (hK _ _ ?_);clear hK K)|refine vr [] fun K hK=>?_|((first|refine aqa fun K' hK'=>?_|refine aqb fun K' B hK' hB=>?_|(apply aqk;refine aqe rfl fun K' hK'=>?_));simp[h8,h7,h0,h1,h2,ints,g1,hgy,hgo,e1];repeat'(first|((first|refine hK' ?_|refine hB ?_);clear hK' hB K' B)|(apply hK';clear hK' K')|refine And.intro ?_ ?_|(clear hK' K';omega)))|refine sp ?_|fail)
   exact ⟨⟨q+1,o,by omega,hnew.symm,by omega,rfl,by simp,by simp [h7],by simp [h0,ints],by simp [h1],by simp [h2]⟩,by simp;omega⟩
 ·rw [List.take_of_length_le (by omega)] at ho
  repeat'(with_reducible first|(refine aqd (hK _ _ ?_);clear hK K)|refine vr [] fun K hK=>?_|((first|refine aqa fun K' hK'=>?_|refine aqb fun K' B hK' hB=>?_);simp[h8,h7,h0,h1,h2,ints,g1];repeat'(first|((first|refine hK' ?_|refine hB ?_);clear hK' hB K' B)|(apply hK';clear hK' K')|fail))|apply aqc|refine sp ?_|fail)
  refine frz hr (by simp) rfl ?_
  rw [bqw,<-ho]
theorem base10_of {m:Mtd} (h:OkT m) (hc:∀ s:FS,s⊆FS.upTo m.n.toNat->Ret Tryz.prog w0 77 [mtA m,ints s.l] (B (decide (Rk.Ind (rkM m) s)))) (s:FS) (hs:s⊆FS.upTo m.n.toNat):
  Ret Tryz.prog w0 80 [mtA m,ints s.l] (ints (Rk.grd (rkM m) s.l ∅).l):=by
 intro H
 have hrk:=h.rk
 have hmn:=bq1 h.may
 obtain ⟨t,n,a,b,l,xs⟩:=m
 have hn:0<=n/\n<=64:=hmn
 have hmn':(Mtd.mk t n a b l xs).n=n:=rfl
 rw [hmn'] at hs hc
 have hsl:=bqt hs
 generalize hR:rkM (.mk t n a b l xs)=R at *
 simp only [mtA,mtC] at hc ⊢
 have hsl':s.l.length<=64:=by omega
 have hone:mtCs xs=mtCs xs:=rfl
 refine aqf Tryz.func80 rfl Tryz.ntmps80 (ts:=[4]) rfl (by simp) (by kernel_rfl) ?_ |>cq4
 repeat'(with_reducible first|(refine sp (hK _ _ ?_);clear hK K)|refine vr [7] fun K hK=>?_|(refine aqa fun K' hK'=>?_;simp[rows,ints];repeat'(first|(apply hK';clear hK' K')|intro hg|fail))|refine sp ?_|fail)
 rename_i bx hb r
 have hbr:r≠bx:=by rintro rfl;simp at hg
 have hr:H r=none:=by rw [if_neg hbr] at hg;exact hg
 clear hg
 obtain ⟨H1,hH1⟩:∃ H1,H1=upd H bx (some (.box [I t,I n,I a,I b,rows l,.sl (mtCs xs) xs.length])):=⟨_,rfl⟩
 have hsub:Sub H H1:=by rw [hH1];exact aqh hb
 have lb:H1 bx=some (.box [I t,I n,I a,I b,rows l,.sl (mtCs xs) xs.length]):=by rw [hH1,aqj]
 have n1:H1 r=none:=by rw [hH1,aqm _ _ _ hbr];exact hr
 simp only [rows] at hH1
 rw [<-hH1]
 clear hH1 hb hr
 have hbr':bx≠r:=Ne.symm hbr
 have lbu:∀ o:List Int,upd H1 r (some (.arr 1 3 (o.map I) o.length)) bx=some (.box [I t,I n,I a,I b,rows l,.sl (mtCs xs) xs.length]):=fun o=>by rw [aqm _ _ _ hbr'];exact lb
 refine aqi (fun env h=>∃ (q:Nat) (o:FS),q<=s.l.length/\o=Rk.grd R (s.l.take q) ∅ /\h=upd H1 r (some (.arr 1 3 (o.l.map I) o.l.length))/\env 6=I q/\env 5= .ref r 0 o.l.length o.l.length/\env 1=ints s.l/\env 2= .ptr bx 0 0) (fun env _=>s.l.length-natA (env 6)) ?_ ?_
 ·exact ⟨0,∅,by omega,by simp [Rk.grd],by simp [fs_empty],by simp,by simp [fs_empty],by simp [ints],by simp⟩
 rintro env h ⟨q,o,hq,ho,rfl,h6,h5,h1,h2⟩
 have hnat:natA (env 6)=q:=by simp [h6]
 rw [hnat];clear hnat
 have hspec:=hrk.grd_spec (s.l.take q) ∅ hrk.ind_empty
 rw [<-ho] at hspec
 have hom:∀ x,x∈o->x∈s.l.take q:=fun x hx=>by
  rcases hspec.2.2.1 x hx with h | h
  ·simp at h
  ·exact h
 have hos:o⊆FS.upTo n.toNat:=fun x hx=>hs x (bqa.1 (List.mem_of_mem_take (hom x hx)))
 have hol:=bqt hos
 have hoset:=cqg hos (by omega)
 by_cases g1:q<s.l.length
 ·obtain ⟨y,hy⟩:∃ y,s.l[q]=y:=⟨_,rfl⟩
  have hyS:y∈s:=by rw [<-bqa,<-hy];exact List.getElem_mem _
  have hyn:=FS.mem_upTo.1 (hs y hyS)
  have htk:s.l.take (q+1)=s.l.take q++[y]:=by rw [List.take_succ_eq_append_getElem g1,hy]
  have hgy:∀ h,s.l[q]'h=y:=fun _=>hy
  have hgo:s.l[q]? =some y:=by simp [g1,hy]
  have hlt:∀ x,x∈o->x<y:=fun x hx=>by
   obtain ⟨i,hi,e⟩:=List.mem_iff_getElem.1 (hom x hx)
   rw [List.length_take] at hi
   rw [List.getElem_take] at e
   rw [<-e,<-hy]
   exact List.pairwise_iff_getElem.1 s.up i q (by omega) g1 (by omega)
  have hsn:=fs_snoc hlt
  have hone:aq3 [y]:=aq3.one ⟨hyn.1,by omega⟩
  have hun:bql o.l [y]=(insert y o:FS).l:=by
   have:=bq2 hoset hone
   refine cqu this.1.up (insert y o).up fun z=> ?_
   rw [this.2,bqa,bqa,FS.mem_insert,List.mem_singleton];exact Or.comm
  have hio:(insert y o:FS)⊆FS.upTo n.toNat:=fun x hx=>by
   rcases FS.mem_insert.1 hx with rfl | hx
   ·exact hs _ hyS
   ·exact hos x hx
  have c1:=union2_at (w0:=w0) (a:=o.l) (b:=[y]) (r:=r) (H:=upd H1 r (some (.arr 1 3 (o.l.map I) o.l.length))) hoset hone (by omega) (by simp) (aqj _ _ _)
  have c2:=hc _ hio
  rw [hun] at c1
  have hnew:=grd_snoc R (s.l.take q) y ∅
  rw [<-htk,<-ho] at hnew
  have hsl1:(s.l.map I |>.drop q |>.take 1)=[I y]:=by
   rw [List.drop_eq_getElem_cons (by simpa using g1)]
   simp [hy]
  simp only [ints,rows,List.map_cons,List.map_nil,List.length_singleton] at c1 c2
  by_cases e:R (insert y o)=(insert y o:FS).card
  ·have hd:decide (Rk.Ind R (insert y o))=true:=decide_eq_true e
   rw [hd] at c2
   rw [if_pos e] at hnew
   repeat'(first|(with_reducible (refine sp (hK _ _ ?_);clear hK K))|(with_reducible refine vr [] fun K hK=>?_)|(with_reducible refine vd [] [14,20,9999] mixed fun K hK=>?_)|((with_reducible first|refine aqa fun K' hK'=>?_|refine aqb fun K' B hK' hB=>?_|refine aqn fun K' hK'=>?_);simp[h6,h5,h1,h2,ints,rows,g1,hgy,hgo,hsl1,lb,hbr',cqq];repeat'(first|(with_reducible first|((first|refine hK' ?_|refine hB ?_);clear hK' hB K' B)|(apply hK';clear hK' K')|(refine Ret.use c2 ?_;try simp[h6,h5,h1,h2,ints,rows,g1,hgy,hgo,hsl1,lb,hbr',cqq]))|((with_reducible refine bqp.use c1 ?_);try simp[h6,h5,h1,h2,ints,rows,g1,hgy,hgo,hsl1,lb,hbr',cqq])|(with_reducible refine And.intro ?_ ?_)|(clear hK' K';omega)))|(with_reducible refine sp ?_)|fail)
   refine ⟨⟨q+1,insert y o,by omega,hnew.symm,by rw [hsn];simp,by simp,by rw [hsn];simp,by simp [h1,ints],by simp [h2]⟩,by simp;omega⟩
  ·have hd:decide (Rk.Ind R (insert y o))=false:=decide_eq_false e
   rw [hd] at c2
   rw [if_neg e] at hnew
   repeat'(first|(with_reducible (refine sp (hK _ _ ?_);clear hK K))|(with_reducible refine vr [] fun K hK=>?_)|(with_reducible refine vd [] [14,20,9999] mixed fun K hK=>?_)|((with_reducible first|refine aqa fun K' hK'=>?_|refine aqb fun K' B hK' hB=>?_|refine aqn fun K' hK'=>?_);simp[h6,h5,h1,h2,ints,rows,g1,hgy,hgo,hsl1,lb,hbr',cqq];repeat'(first|(with_reducible first|((first|refine hK' ?_|refine hB ?_);clear hK' hB K' B)|(apply hK';clear hK' K')|(refine Ret.use c2 ?_;try simp[h6,h5,h1,h2,ints,rows,g1,hgy,hgo,hsl1,lb,hbr',cqq]))|((with_reducible refine bqp.use c1 ?_);try simp[h6,h5,h1,h2,ints,rows,g1,hgy,hgo,hsl1,lb,hbr',cqq])|(with_reducible refine And.intro ?_ ?_)|(clear hK' K';omega)))|(with_reducible refine sp ?_)|fail)
   exact ⟨⟨q+1,o,by omega,hnew.symm,rfl,by simp,by simp [h5],by simp [h1,ints],by simp [h2]⟩,by simp;omega⟩
 ·rw [List.take_of_length_le (by omega)] at ho
  repeat'(with_reducible first|(refine sp (hK _ _ ?_);clear hK K)|refine vr [] fun K hK=>?_|((first|refine aqa fun K' hK'=>?_|refine aqb fun K' B hK' hB=>?_);simp[h6,h5,h1,h2,ints,g1];repeat'(first|((first|refine hK' ?_|refine hB ?_);clear hK' hB K' B)|(apply hK';clear hK' K')|fail))|apply aqc|refine sp ?_|fail)
  refine .inr ⟨r,0,o.l.length,o.l.length,1,3,o.l.map I,by simp,aqj _ _ _,?_,by rw [aqx,aq7 n1];exact hsub⟩
  rw [bqw,ho]
section
variable {t n a b:Int} {l:List (List Int)} {xs:List Mtd}
theorem OkT.low (h:OkT (.mk t n a b l xs)) (g:¬(5<=t/\t<=9)):0<=t/\t<5:=by
 have hp:=h.plain g
 unfold bqz at hp
 by_cases e0:t=0
 ·omega
 by_cases e1:t=1
 ·omega
 by_cases e2:t=2
 ·omega
 by_cases e3:t=3
 ·omega
 by_cases e4:t=4
 ·omega
 rw [if_neg e0,if_neg e1,if_neg e2,if_neg e3,if_neg e4] at hp
 simp at hp
end
theorem eqb {p:Prop} [Decidable p] {v:Bool} (h:v=true↔p):decide p=v:=by
 rw [Bool.eq_iff_iff,decide_eq_true_iff,h]
theorem allI_take {xs ys:List Mtd} {s:FS}:∀ {f:Int},allI (xs++ys) f s->allI xs f s:=by
 induction xs with
 | nil=>intro f _;trivial
 | cons y xs ih=>intro f h;exact ⟨h.1,ih h.2⟩
theorem allI_app {xs:List Mtd} {x:Mtd} {s:FS}:∀ {f:Int},allI (xs++[x]) f s↔allI xs f s/\Rk.Ind (rkM x) (shf (f+nS xs) x.n s):=by
 induction xs with
 | nil=>intro f;simp [allI,nS]
 | cons y xs ih=>
  intro f
  have e:nS (y::xs)=y.n+nS xs:=by simp [nS]
  rw [List.cons_append,allI,allI,ih,e,and_assoc,Int.add_assoc]
set_option maxRecDepth 20000 in
set_option maxHeartbeats 4000000 in
theorem kqo:∀ m,OkT m->∀ s:FS,s⊆FS.upTo m.n.toNat->Ret Tryz.prog w0 77 [mtA m,ints s.l] (B (decide (Rk.Ind (rkM m) s))):=by
 refine Mtd.ind fun t n a b l xs ih h s hs0=> ?_
 have hs:s⊆FS.upTo n.toNat:=hs0
 clear hs0
 have hn:=h.n0
 have hsl:=bqt hs
 have hset:=cqg hs (by omega)
 intro H
 by_cases g:5<=t/\t<=9
 rotate_left
 ·have hlow:=(h.low g).2
  have c1:=plain10_ret (w0:=w0) h g s hs
  simp only [mtA,mtC] at c1 ⊢
  refine aqf Tryz.func77 rfl Tryz.ntmps77 (ts:=[4]) rfl (by simp) (by kernel_rfl) ?_
  repeat'(with_reducible first|(refine sp (hK _ _ ?_);clear hK K)|refine vr [] fun K hK=>?_|((first|refine aqa fun K' hK'=>?_|refine aqb fun K' B hK' hB=>?_);simp[hlow];repeat'(first|((first|refine hK' ?_|refine hB ?_);clear hK' hB K' B)|(apply hK';clear hK' K')|refine Ret.use c1 ?_|intro hg|fail))|apply aqc|refine sp ?_|fail)
  exact ⟨by simp,aqh (by assumption)⟩
 obtain ⟨j1,j2,j3,j4,j5,hx,j7⟩:=h.nest g
 have hlow:¬t<5:=by omega
 have cI:=Image9_ret (w0:=w0) h s hs
 obtain ⟨x,hx0⟩:∃ x,xs[0]=x:=⟨_,rfl⟩
 have hxm:x∈xs:=by rw [<-hx0];exact List.getElem_mem _
 have hOx:=hx x hxm
 have hxn:=bq1 hOx.may
 have ihx:=ih x hxm hOx
 have bsx:=base10_of (w0:=w0) hOx ihx
 have hat:=dq1 (xs:=xs) (k:=0) (by omega)
 rw [hx0,Nat.zero_mul,List.drop_zero] at hat
 have hcsl:=dqb xs
 have hcs6:6<=xs.length*6:=by omega
 have hcl:=cqh x
 obtain ⟨v,hv0⟩:∃ v,decide (Rk.Ind (rkM (.mk t n a b l xs)) s)=v:=⟨_,rfl⟩
 rw [hv0]
 have hv:v=true↔rkM (.mk t n a b l xs) s=s.card:=by rw [<-hv0,decide_eq_true_iff];exact Iff.rfl
 clear hv0
 rw [rkM,eqv hs] at hv
 have hmx:mtA x= .agg (mtC x):=rfl
 rw [hmx] at ihx bsx
 simp only [mtA,mtC] at cI ⊢
 have hset6:setL [.sc (.int .i64 0),.sc (.int .i64 0),.sc (.int .i64 0),.sc (.int .i64 0),.sc (.slice none 0 0),.sc (.slice none 0 0)] 0 (mtC x)=mtC x:=by cases x;rfl
 have ht6:(mtC x).take 6=mtC x:=List.take_of_length_le (by omega)
 refine aqf Tryz.func77 rfl Tryz.ntmps77 (ts:=[4]) rfl (by simp) (by kernel_rfl) ?_
 repeat'(with_reducible first|(refine sp (hK _ _ ?_);clear hK K)|((fail_if_success(refine aql 4 ?_));(fail_if_success(refine(?_:AWP _ _ _ (Code.region 4 _ _) _ _ _)));refine vr [] fun K hK=>?_)|((first|refine aqa fun K' hK'=>?_|refine aqb fun K' B hK' hB=>?_);simp[hlow,hat,hcsl,hcs6,hset6];repeat'(first|((first|refine hK' ?_|refine hB ?_);clear hK' hB K' B)|(apply hK';clear hK' K')|refine And.intro ?_ ?_|intro hg|(clear hK' K';omega)))|((fail_if_success(refine aql 4 ?_));refine sp ?_)|fail)
 rename_i bx hb bi
 have hbi:bi≠bx:=by rintro rfl;simp at hg
 have hbi':bx≠bi:=Ne.symm hbi
 have hb2:H bi=none:=by rw [if_neg hbi] at hg;exact hg
 clear hg
 obtain ⟨H2,hH2⟩:∃ H2,H2=upd (upd H bx (some (.box [I t,I n,I a,I b,rows l,.sl (mtCs xs) xs.length]))) bi (some (.box (mtC x))):=⟨_,rfl⟩
 have hsub:Sub H H2:=by rw [hH2];exact ((Sub.refl _).upd hb _).upd hb2 _
 have lb:H2 bx=some (.box [I t,I n,I a,I b,rows l,.sl (mtCs xs) xs.length]):=by rw [hH2,aqm _ _ _ hbi',aqj]
 have li:H2 bi=some (.box (mtC x)):=by rw [hH2,aqj]
 rw [<-hH2]
 clear hH2 hb hb2 hset6
 by_cases e5:t=5
 ·have e5':(t=5)=True:=eq_true e5
  obtain ⟨x',T,rfl,rfl,_,hT,x0,x64,i1,i2,i3⟩:=h.five (.inl e5)
  obtain rfl:x'=x:=hx0
  have hL:imgL t [T.l] [x']=T.l:=by rw [imgL,if_neg (by omega)];rfl
  rw [hL] at i2 i3
  rw [if_pos (.inl e5),decide_eq_true (.inl e5),hL] at cI
  have hin:∀ y,y∈s->0<=y/\y<T.l.length:=fun y hy=>by have:=FS.mem_upTo.1 (hs y hy);omega
  have hcard:=img_card T.up hin
  have hsub':img T.l s⊆FS.upTo x'.n.toNat:=nqg (fun y hy=>by have:=i3 y hy;omega) s
  have c2:=ihx _ hsub'
  have hfin:decide (Rk.Ind (rkM x') (img T.l s))=v:=eqb (by
   rw [hv]
   unfold Rk.Ind
   rw [hcard,if_pos e5]
   exact Iff.rfl)
  rw [hfin] at c2
  simp only [List.length_singleton] at cI lb
  repeat'(with_reducible first|(refine sp (hK _ _ ?_);clear hK K)|refine vr [] fun K hK=>?_|((first|refine aqa fun K' hK'=>?_|refine aqb fun K' B hK' hB=>?_);simp[hlow,e5',lb,li,ht6,hcl];repeat'(first|((first|refine hK' ?_|refine hB ?_);clear hK' hB K' B)|(apply hK';clear hK' K')|refine Ret.use cI ?_|refine Ret.use c2 ?_|fail))|apply aqc|refine sp ?_|fail)
  exact ⟨by simp,hsub⟩
 have e5':(t=5)=False:=eq_false e5
 by_cases e6:t=6
 ·have e6':(t=6)=True:=eq_true e6
  obtain ⟨x',T,rfl,rfl,_,hT,x0,x64,i1,i2,i3⟩:=h.five (.inr e6)
  obtain rfl:x'=x:=hx0
  obtain ⟨L,hL⟩:∃ L,imgL t [T.l] [x']=L:=⟨_,rfl⟩
  have hLc:L=cmpl x'.n T.l:=by rw [<-hL,imgL,if_pos e6];rfl
  rw [hL] at i1 i2 i3
  rw [if_pos (.inr e6),decide_eq_true (.inr e6),hL] at cI
  have hin:∀ y,y∈s->0<=y/\y<L.length:=fun y hy=>by have:=FS.mem_upTo.1 (hs y hy);omega
  have hcard:=img_card i1 hin
  have hsub':img L s⊆FS.upTo x'.n.toNat:=nqg (fun y hy=>by have:=i3 y hy;omega) s
  have c2:=bsx T hT
  have hxrk:=hOx.rk
  have hgr:=hxrk.grd_rank T
  obtain ⟨Bs,hBs⟩:∃ Bs,Rk.grd (rkM x') T.l ∅ =Bs:=⟨_,rfl⟩
  rw [hBs] at c2 hgr
  obtain ⟨g1,g2,g3,g4⟩:=hgr
  have hBsub:Bs⊆FS.upTo x'.n.toNat:=fun y hy=>hT y (g2 y hy)
  have s1:=cqg hsub' (by omega)
  have s2:=cqg hBsub (by omega)
  have l1:=bqt hsub'
  have l2:=bqt hBsub
  have c3:=lqe (w0:=w0) (a:=(img L s).l) (b:=Bs.l) (by simp;omega)
  rw [fs_unionR s1 s2] at c3
  have c4:=ihx (img L s∪Bs) fun y hy=>by
   rcases FS.mem_union.1 hy with hy | hy
   ·exact hsub' y hy
   ·exact hBsub y hy
  have hfin:decide (Rk.Ind (rkM x') (img L s∪Bs))=v:=eqb (by
   rw [hv,if_neg e5,if_pos e6,<-ind_con hxrk g1 g2 g4 fun y hy hyT=> ?_,hcard]
   ·rw [hLc,show FS.ofList ([T.l].getD 0 [])=T from FS.ext fun x=>by rw [FS.mem_ofList];exact Iff.rfl]
    exact Iff.rfl
   ·obtain ⟨z,_,_,e⟩:=fqy.1 hy
    have:=List.mem_of_getElem? e
    rw [hLc] at this
    exact ((mq5 x0).1 this).2 hyT)
  rw [hfin] at c4
  simp only [List.length_singleton] at cI lb
  repeat'(with_reducible first|(refine sp (hK _ _ ?_);clear hK K)|((fail_if_success(refine aql 5 ?_));(fail_if_success(refine(?_:AWP _ _ _ (Code.region 5 _ _) _ _ _)));refine vr [] fun K hK=>?_)|(refine aqa fun K' hK'=>?_;simp[hlow,lb,li,ht6,hcl];repeat'(first|(apply hK';clear hK' K')|refine Ret.use cI ?_|fail))|((fail_if_success(refine aql 5 ?_));refine sp ?_)|fail)
  repeat'(with_reducible first|(refine sp (hK _ _ ?_);clear hK K)|refine vr [] fun K hK=>?_|(refine vd [] [35,37,38,39,40,41] mixed fun K hK=>?_)|((first|refine aqa fun K' hK'=>?_|refine aqb fun K' B hK' hB=>?_|refine aqn fun K' hK'=>?_);simp[e5',e6',lb,li,ht6,hcl,rows,boxes,Blk.isArr,aqg.refl];repeat'(first|((first|refine hK' ?_|refine hB ?_);clear hK' hB K' B)|(apply hK';clear hK' K')|(refine Ret.use c2 ?_;try simp[e5',e6',lb,li,ht6,hcl,rows,boxes,Blk.isArr,aqg.refl])|(refine Ret.use c3 ?_;try simp[e5',e6',lb,li,ht6,hcl,rows,boxes,Blk.isArr,aqg.refl])|(refine Ret.use c4 ?_;try simp[e5',e6',lb,li,ht6,hcl,rows,boxes,Blk.isArr,aqg.refl])|fail))|apply aqc|refine sp ?_|fail)
  exact ⟨by simp,hsub⟩
 have e6':(t=6)=False:=eq_false e6
 have e56:¬(t=5\/t=6):=by omega
 rw [if_neg e56,decide_eq_false e56] at cI
 rw [if_neg e5,if_neg e6] at hv
 rw [if_pos (by omega)] at j7
 obtain ⟨rfl,hnS⟩:=j7
 by_cases e9:t=9
 ·have e9':(t=9)=True:=eq_true e9
  have e7':(t=7)=False:=eq_false (by omega)
  have e8':(t=8)=False:=eq_false (by omega)
  rw [if_neg (by omega),if_neg (by omega),if_pos e9] at hv
  have hall:=ind_sum (xs:=xs) (fun y hy=>(hx y hy).rk) (fun y hy=>(bq1 (hx y hy).may).1) (s:=s) fun y hy=>by
   have:=FS.mem_upTo.1 (hs y hy)
   have e:nS xs=sumN xs:=rfl
   omega
  rw [hall] at hv
  have hxb:∀ y∈xs,0<=y.n/\y.n<=64:=fun y hy=>bq1 (hx y hy).may
  repeat'(with_reducible first|(refine sp (hK _ _ ?_);clear hK K)|refine vr [] fun K hK=>?_|((first|refine aqa fun K' hK'=>?_|refine aqb fun K' B hK' hB=>?_);simp[hlow,lb,li,ht6,hcl,e5',e6',e7',e8'];repeat'(first|((first|refine hK' ?_|refine hB ?_);clear hK' hB K' B)|(apply hK';clear hK' K')|refine Ret.use cI ?_|fail))|refine sp ?_|fail)
  refine aqi (fun env h=>∃ q:Nat,q<=xs.length/\h=H2/\allI (xs.take q) 0 s/\env 9=I q/\env 8=I (nS (xs.take q))/\env 1=ints s.l/\env 2= .ptr bx 0 0) (fun env _=>xs.length-natA (env 9)) ?_ ?_
  ·exact ⟨0,by omega,rfl,by simp [allI],by simp,by simp [nS],by simp,by simp⟩
  rintro env h' ⟨q,hq,rfl,hf,h9,h8,h1,h2⟩
  have hnat:natA (env 9)=q:=by simp [h9]
  rw [hnat];clear hnat
  by_cases g1:q<xs.length
  ·have hat2:=dq1 g1
   have hlt2:q*6+6<=xs.length*6:=by omega
   obtain ⟨y,hy⟩:∃ y,xs[q]=y:=⟨_,rfl⟩
   have hym:y∈xs:=by rw [<-hy];exact List.getElem_mem _
   rw [hy] at hat2
   have hyb:=hxb y hym
   have htk:xs.take (q+1)=xs.take q++[y]:=by rw [List.take_succ_eq_append_getElem g1,hy]
   have hyl:=cqh y
   have hbn:=hqj (xs:=xs.take q) fun z hz=>hxb z (List.mem_of_mem_take hz)
   have htl:(xs.take q).length<=8:=by rw [List.length_take];omega
   have hbn':0<=nS (xs.take q)/\nS (xs.take q)<=64*(xs.take q).length:=hbn
   have hns1:nS (xs.take (q+1))=nS (xs.take q)+y.n:=by rw [htk];simp [nS]
   have hap:=allI_app (xs:=xs.take q) (x:=y) (f:=0) (s:=s)
   rw [<-htk] at hap
   have hn1:(mtCs xs)[q*6+1]? =some (I y.n):=by
    have:(((mtCs xs).drop (q*6)).take 6)[1]? =some (I y.n):=by rw [hat2];cases y;rfl
    rw [List.getElem?_take_of_lt (by omega),List.getElem?_drop] at this
    exact this
   obtain ⟨f,hfn⟩:∃ f,nS (xs.take q)=f:=⟨_,rfl⟩
   rw [hfn] at hap h8 hns1 hbn'
   rw [Int.zero_add] at hap
   have c2:=mqs (w0:=w0) (s:=s) (f:=f) (k:=y.n) (fun z hz=>by have:=FS.mem_upTo.1 (hs z hz);omega) (by omega) (by omega) (by omega)
   have c3:=ih y hym (hx y hym) (shf f y.n s) fun z hz=>by
    rw [dqi] at hz;rw [FS.mem_upTo];omega
   have hmy:mtA y= .agg (mtC y):=rfl
   rw [hmy] at c3
   by_cases e:Rk.Ind (rkM y) (shf f y.n s)
   ·rw [decide_eq_true e] at c3
    repeat'(with_reducible first|(refine sp (hK _ _ ?_);clear hK K)|refine vr [] fun K hK=>?_|(refine vd [] [81,82,84,85,88,89,91,92,93] mixed fun K hK=>?_)|((first|refine aqa fun K' hK'=>?_|refine aqb fun K' B hK' hB=>?_|refine aqn fun K' hK'=>?_);simp[h9,h8,h1,h2,lb,g1,hat2,hcsl,hlt2,hn1,boxes,Blk.isArr,aqg.refl];repeat'(first|((first|refine hK' ?_|refine hB ?_);clear hK' hB K' B)|(apply hK';clear hK' K')|(refine Ret.use c2 ?_;try simp[h9,h8,h1,h2,lb,g1,hat2,hcsl,hlt2,hn1,boxes,Blk.isArr,aqg.refl])|(refine Ret.use c3 ?_;try simp[h9,h8,h1,h2,lb,g1,hat2,hcsl,hlt2,hn1,boxes,Blk.isArr,aqg.refl])|refine And.intro ?_ ?_|(clear hK' K';omega)))|refine sp ?_|fail)
    exact ⟨⟨q+1,by omega,rfl,hap.2 ⟨hf,e⟩,by simp,by rw [hns1];simp,by simp [h1],by simp [h2]⟩,by simp;omega⟩
   ·rw [decide_eq_false e] at c3
    have hvf:v=false:=by
     rw [Bool.eq_false_iff]
     intro hvt
     have h1:=hv.1 hvt
     rw [<-List.take_append_drop (q+1) xs] at h1
     exact e (hap.1 (allI_take h1)).2
    repeat'(with_reducible first|(refine sp (hK _ _ ?_);clear hK K)|refine vr [] fun K hK=>?_|(refine vd [] [81,82,84,85,88,89,91,92,93] mixed fun K hK=>?_)|((first|refine aqa fun K' hK'=>?_|refine aqb fun K' B hK' hB=>?_|refine aqn fun K' hK'=>?_);simp[h9,h8,h1,h2,lb,g1,hat2,hcsl,hlt2,hn1,boxes,Blk.isArr,aqg.refl];repeat'(first|((first|refine hK' ?_|refine hB ?_);clear hK' hB K' B)|(apply hK';clear hK' K')|(refine Ret.use c2 ?_;try simp[h9,h8,h1,h2,lb,g1,hat2,hcsl,hlt2,hn1,boxes,Blk.isArr,aqg.refl])|(refine Ret.use c3 ?_;try simp[h9,h8,h1,h2,lb,g1,hat2,hcsl,hlt2,hn1,boxes,Blk.isArr,aqg.refl])|fail))|apply aqc|refine sp ?_|fail)
    exact ⟨by simp [hvf],hsub⟩
  ·rw [List.take_of_length_le (by omega)] at hf
   have hvt:=hv.2 hf
   repeat'(with_reducible first|(refine sp (hK _ _ ?_);clear hK K)|refine vr [] fun K hK=>?_|((first|refine aqa fun K' hK'=>?_|refine aqb fun K' B hK' hB=>?_);simp[h9,h8,h1,h2,lb,g1];repeat'(first|((first|refine hK' ?_|refine hB ?_);clear hK' hB K' B)|(apply hK';clear hK' K')|fail))|apply aqc|refine sp ?_|fail)
   exact ⟨by simp [hvt],hsub⟩
 have hx1:xs=[x]:=by
  obtain ⟨z,hz⟩:=nH_sum j3 (by omega)
  subst hz
  have:z=x:=hx0
  rw [this]
 subst hx1
 rw [hqi] at hnS
 rw [hnS] at hs hv
 have hHx:rkH [x]=rkM x:=funext fun s=>by rw [rkH]
 rw [hHx] at hv
 have hxrk:=hOx.rk
 simp only [List.length_singleton] at cI lb
 by_cases e7:t=7
 ·have e7':(t=7)=True:=eq_true e7
  rw [if_pos e7,ind_trunc hxrk] at hv
  have c2:=ihx s hs
  by_cases k:(s.l.length:Int)<=a
  ·have hfin:decide (Rk.Ind (rkM x) s)=v:=eqb (by
    rw [hv]
    have:s.card<=a.toNat:=by show s.l.length<=_;omega
    exact ⟨fun h=>h.2,fun h=>⟨this,h⟩⟩)
   rw [hfin] at c2
   repeat'(with_reducible first|(refine sp (hK _ _ ?_);clear hK K)|((fail_if_success(refine aql 5 ?_));(fail_if_success(refine(?_:AWP _ _ _ (Code.region 5 _ _) _ _ _)));refine vr [] fun K hK=>?_)|(refine aqa fun K' hK'=>?_;simp[hlow,lb,li,ht6,hcl];repeat'(first|(apply hK';clear hK' K')|refine Ret.use cI ?_|fail))|((fail_if_success(refine aql 5 ?_));refine sp ?_)|fail)
   have hi:ints s.l= .sl (s.l.map I) s.l.length:=rfl
   rw [hi] at c2
   repeat'(with_reducible first|(refine sp (hK _ _ ?_);clear hK K)|refine vr [] fun K hK=>?_|((first|refine aqa fun K' hK'=>?_|refine aqb fun K' B hK' hB=>?_|(apply aqk;refine aqe rfl fun K' hK'=>?_));simp[e5',e6',e7',lb,li,ht6,hcl,k,hi];repeat'(first|((first|refine hK' ?_|refine hB ?_);clear hK' hB K' B)|(apply hK';clear hK' K')|refine Ret.use c2 ?_|fail))|apply aqc|refine sp ?_|fail)
   exact ⟨by simp,hsub⟩
  ·have hvf:v=false:=by
    rw [Bool.eq_false_iff]
    intro hvt
    have h1:s.l.length<=a.toNat:=(hv.1 hvt).1
    omega
   repeat'(with_reducible first|(refine sp (hK _ _ ?_);clear hK K)|refine vr [] fun K hK=>?_|((first|refine aqa fun K' hK'=>?_|refine aqb fun K' B hK' hB=>?_|(apply aqk;refine aqe rfl fun K' hK'=>?_));simp[hlow,lb,li,ht6,hcl,e5',e6',e7',k];repeat'(first|((first|refine hK' ?_|refine hB ?_);clear hK' hB K' B)|(apply hK';clear hK' K')|refine Ret.use cI ?_|fail))|apply aqc|refine sp ?_|fail)
   exact ⟨by simp [hvf],hsub⟩
 have e7':(t=7)=False:=eq_false e7
 have e8:t=8:=by omega
 have e8':(t=8)=True:=eq_true e8
 rw [if_neg e7,if_pos e8,ind_dual hxrk hs] at hv
 rw [<-hnS] at hs hv
 have hxE:FS.upTo n.toNat⊆FS.upTo x.n.toNat:=by rw [hnS];exact FS.sub_refl _
 have hEs:FS.upTo n.toNat \ s⊆FS.upTo n.toNat:=fun y hy=>(FS.mem_sdiff.1 hy).1
 have c2:Ret Tryz.prog w0 35 [I n] (ints (FS.upTo n.toNat).l):=by
  have:=jqu (w0:=w0) (n:=n)
  rwa [allL,if_pos (by omega)] at this
 have c3:Ret Tryz.prog w0 34 [ints (FS.upTo n.toNat).l,ints s.l] (ints (FS.upTo n.toNat \ s).l):=by
  have:=gqb (w0:=w0) (a:=(FS.upTo n.toNat).l) (b:=s.l) (by rw [fs_upto];simp;omega) (by omega)
  rw [if_pos (by rw [Bool.and_eq_true,fs_upto];exact ⟨aqs.2 (cqd (by omega)),aqs.2 hset⟩),fq2] at this
  exact this
 have c4:=bsx (FS.upTo n.toNat \ s) (FS.sub_trans hEs hxE)
 have c5:=bsx (FS.upTo n.toNat) hxE
 have k4:=(hxrk.grd_rank (FS.upTo n.toNat \ s)).2.2.1
 have k5:=(hxrk.grd_rank (FS.upTo n.toNat)).2.2.1
 obtain ⟨B1,hB1⟩:∃ B1,Rk.grd (rkM x) (FS.upTo n.toNat \ s).l ∅ =B1:=⟨_,rfl⟩
 obtain ⟨B2,hB2⟩:∃ B2,Rk.grd (rkM x) (FS.upTo n.toNat).l ∅ =B2:=⟨_,rfl⟩
 rw [hB1] at c4 k4
 rw [hB2] at c5 k5
 have hfin:decide ((B1.l.length:Int)=B2.l.length)=v:=eqb (by
  rw [hv,<-k4,<-k5]
  show _↔((B1.card:Nat):Int)=(B2.card:Nat)
  omega)
 repeat'(with_reducible first|(refine sp (hK _ _ ?_);clear hK K)|((fail_if_success(refine aql 13 ?_));(fail_if_success(refine(?_:AWP _ _ _ (Code.region 13 _ _) _ _ _)));refine vr [] fun K hK=>?_)|((first|refine aqa fun K' hK'=>?_|refine aqb fun K' B hK' hB=>?_);simp[hlow,lb,li,ht6,hcl,e5',e6',e7',e8'];repeat'(first|((first|refine hK' ?_|refine hB ?_);clear hK' hB K' B)|(apply hK';clear hK' K')|refine Ret.use cI ?_|fail))|((fail_if_success(refine aql 13 ?_));refine sp ?_)|fail)
 refine bqu mixed [] [59,60,61,67,68,69] [0,1,2,4,8,9,10,3,5,6,7,11,12,13,14,15] (by kernel_rfl) (fun K hK=> ?_)
 simp only [List.filterMap_cons,List.filterMap_nil,List.getElem?_cons_succ,List.getElem?_cons_zero]
 repeat'(with_reducible first|(refine sp (hK _ _ ?_);clear hK K)|(refine aqn fun K' hK'=>?_;simp[lb,li,ht6,hcl,boxes,Blk.isArr,aqg.refl];repeat'(first|(apply hK';clear hK' K')|(refine Ret.use c2 ?_;try simp[lb,li,ht6,hcl,boxes,Blk.isArr,aqg.refl])|(refine Ret.use c3 ?_;try simp[lb,li,ht6,hcl,boxes,Blk.isArr,aqg.refl])|(refine Ret.use c4 ?_;try simp[lb,li,ht6,hcl,boxes,Blk.isArr,aqg.refl])|(refine Ret.use c5 ?_;try simp[lb,li,ht6,hcl,boxes,Blk.isArr,aqg.refl])|fail))|apply aqc|refine sp ?_|fail)
 exact ⟨by simpa using hfin,hsub⟩
def setT (m:Mtd) (s:List Int):Bool:=decide (eqc m=0)&&ptsB s m.n
theorem dqn {m:Mtd} (hN:Nice m) {s:List Int}:setT m s=true↔OkT m/\∃ S:FS,s=S.l/\S⊆FS.upTo m.n.toNat:=by
 rw [setT,Bool.and_eq_true,decide_eq_true_iff]
 constructor
 ·rintro ⟨h1,h2⟩
  simp only [ptsB,Bool.and_eq_true,aqs,List.all_eq_true,decide_eq_true_eq] at h2
  refine ⟨.of hN h1,⟨s,h2.1.up⟩,rfl,fun x hx=> ?_⟩
  have a1:=h2.1.ok x hx
  have a2:=h2.2 x hx
  rw [FS.mem_upTo];omega
 ·rintro ⟨h,S,rfl,hS⟩
  refine ⟨h.check,?_⟩
  have hn:=bq1 h.may
  simp only [ptsB,Bool.and_eq_true,aqs,List.all_eq_true,decide_eq_true_eq]
  exact ⟨cqg hS (by omega),fun x hx=>by have:=FS.mem_upTo.1 (hS x (bqa.1 hx));omega⟩
noncomputable def indT (m:Mtd) (s:List Int):Bool:=setT m s&&decide (Rk.Ind (rkM m) (FS.ofList s))
noncomputable def rankT (m:Mtd) (s:List Int):Int:=if setT m s then (rkM m (FS.ofList s):Int) else -1
theorem cqn (S:FS):FS.ofList S.l=S:=FS.ext fun x=>by rw [FS.mem_ofList];exact Iff.rfl
theorem May10_ret {m:Mtd} (hN:Nice m) {s:List Int} (hs:aqz s):Ret Tryz.prog w0 76 [mtA m,ints s] (B (setT m s)):=by
 have c1:=eqz (w0:=w0) hN
 have c2:=jqp (w0:=w0) (l:=s) (n:=m.n) hs
 intro H
 rw [setT]
 obtain ⟨t,n,a,b,l,xs⟩:=m
 have hn:(Mtd.mk t n a b l xs).n=n:=rfl
 rw [hn] at c2 ⊢
 simp only [mtA,mtC] at c1 ⊢
 generalize eqc (.mk t n a b l xs)=c at *
 generalize ptsB s n=p at *
 refine aqf Tryz.func76 rfl Tryz.ntmps76 (ts:=[4]) rfl (by simp) (by kernel_rfl) ?_
 by_cases g:c=0
 ·subst g
  repeat'(with_reducible first|(refine aqd (hK _ _ ?_);clear hK K)|refine vr [] fun K hK=>?_|((first|refine aqa fun K' hK'=>?_|(apply aqk;refine aqe rfl fun K' hK'=>?_));simp;repeat'(first|(apply hK';clear hK' K')|refine Ret.use c1 ?_|refine Ret.use c2 ?_|intro hg|fail))|apply aqc|refine sp ?_|fail)
  exact ⟨by simp,aqh (by assumption)⟩
 ·repeat'(with_reducible first|(refine aqd (hK _ _ ?_);clear hK K)|refine vr [] fun K hK=>?_|((first|refine aqa fun K' hK'=>?_|(apply aqk;refine aqe rfl fun K' hK'=>?_));simp[g];repeat'(first|(apply hK';clear hK' K')|refine Ret.use c1 ?_|intro hg|fail))|apply aqc|refine sp ?_|fail)
  exact ⟨by simp [g],aqh (by assumption)⟩
theorem kq2 {m:Mtd} (hN:Nice m) {s:List Int} (hs:aqz s):Ret Tryz.prog w0 31 [mtA m,ints s] (B (indT m s)):=by
 have c1:=May10_ret (w0:=w0) hN hs
 intro H
 rw [indT]
 cases g:setT m s with
 | false=>
  rw [g] at c1
  obtain ⟨t,n,a,b,l,xs⟩:=m
  simp only [mtA,mtC] at c1 ⊢
  refine aqf Tryz.func31 rfl Tryz.ntmps31 (ts:=[4]) rfl (by simp) (by kernel_rfl) ?_
  repeat'(with_reducible first|(refine aqd (hK _ _ ?_);clear hK K)|refine vr [] fun K hK=>?_|((first|refine aqa fun K' hK'=>?_|(apply aqk;refine aqe rfl fun K' hK'=>?_));simp;repeat'(first|(apply hK';clear hK' K')|refine Ret.use c1 ?_|intro hg|fail))|apply aqc|refine sp ?_|fail)
  exact ⟨by simp,aqh (by assumption)⟩
 | true=>
  rw [g] at c1
  obtain ⟨hO,S,rfl,hS⟩:=(dqn hN).1 g
  have c2:=kqo (w0:=w0) m hO S hS
  rw [cqn]
  generalize decide (Rk.Ind (rkM m) S)=v at *
  obtain ⟨t,n,a,b,l,xs⟩:=m
  simp only [mtA,mtC] at c1 c2 ⊢
  refine aqf Tryz.func31 rfl Tryz.ntmps31 (ts:=[4]) rfl (by simp) (by kernel_rfl) ?_
  repeat'(with_reducible first|(refine aqd (hK _ _ ?_);clear hK K)|refine vr [] fun K hK=>?_|((first|refine aqa fun K' hK'=>?_|(apply aqk;refine aqe rfl fun K' hK'=>?_));simp;repeat'(first|(apply hK';clear hK' K')|refine Ret.use c1 ?_|refine Ret.use c2 ?_|intro hg|fail))|apply aqc|refine sp ?_|fail)
  exact ⟨by simp,aqh (by assumption)⟩
theorem iq3 {m:Mtd} (hN:Nice m) {s:List Int} (hs:aqz s):Ret Tryz.prog w0 36 [mtA m,ints s] (I (rankT m s)):=by
 have c1:=May10_ret (w0:=w0) hN hs
 intro H
 rw [rankT]
 cases g:setT m s with
 | false=>
  rw [g] at c1
  obtain ⟨t,n,a,b,l,xs⟩:=m
  simp only [mtA,mtC] at c1 ⊢
  refine aqf Tryz.func36 rfl Tryz.ntmps36 (ts:=[4]) rfl (by simp) (by kernel_rfl) ?_
  repeat'(with_reducible first|(refine aqd (hK _ _ ?_);clear hK K)|refine vr [] fun K hK=>?_|((first|refine aqa fun K' hK'=>?_|refine aqb fun K' B hK' hB=>?_);simp;repeat'(first|((first|refine hK' ?_|refine hB ?_);clear hK' hB K' B)|(apply hK';clear hK' K')|refine Ret.use c1 ?_|intro hg|fail))|apply aqc|refine sp ?_|fail)
  exact ⟨by simp,aqh (by assumption)⟩
 | true=>
  rw [g] at c1
  obtain ⟨hO,S,rfl,hS⟩:=(dqn hN).1 g
  have c2:=base10_of (w0:=w0) hO (fun s hs=>kqo m hO s hs) S hS
  have k:=(hO.rk.grd_rank S).2.2.1
  rw [cqn,if_pos rfl]
  obtain ⟨B1,hB1⟩:∃ B1,Rk.grd (rkM m) S.l ∅ =B1:=⟨_,rfl⟩
  rw [hB1] at c2 k
  rw [<-k]
  have hbl:B1.card=B1.l.length:=rfl
  rw [hbl]
  obtain ⟨t,n,a,b,l,xs⟩:=m
  simp only [mtA,mtC] at c1 c2 ⊢
  refine aqf Tryz.func36 rfl Tryz.ntmps36 (ts:=[4]) rfl (by simp) (by kernel_rfl) ?_
  repeat'(with_reducible first|(refine aqd (hK _ _ ?_);clear hK K)|refine vr [] fun K hK=>?_|((first|refine aqa fun K' hK'=>?_|refine aqb fun K' B hK' hB=>?_);simp;repeat'(first|((first|refine hK' ?_|refine hB ?_);clear hK' hB K' B)|(apply hK';clear hK' K')|refine Ret.use c1 ?_|refine Ret.use c2 ?_|intro hg|fail))|apply aqc|refine sp ?_|fail)
  exact ⟨by simp,aqh (by assumption)⟩
theorem nqf {x most:Int}:Ret Tryz.prog w0 163 [I x,I most] (B (decide (0<=x)&&decide (x<=most))):=by
 intro H
 refine aqf Tryz.func163 rfl Tryz.ntmps163 (ts:=[4]) rfl (by simp) (by kernel_rfl) ?_
 by_cases h1:0<=x
 ·by_cases h2:x<=most
  ·repeat'(with_reducible first|(refine aqd (hK _ _ ?_);clear hK K)|refine vr [] fun K hK=>?_|((first|refine aqa fun K' hK'=>?_|(apply aqk;refine aqe rfl fun K' hK'=>?_));simp[h1,h2];repeat'(first|(apply hK';clear hK' K')|fail))|apply aqc|refine sp ?_|fail)
   exact ⟨by simp [h1,h2],.refl _⟩
  ·repeat'(with_reducible first|(refine aqd (hK _ _ ?_);clear hK K)|refine vr [] fun K hK=>?_|((first|refine aqa fun K' hK'=>?_|(apply aqk;refine aqe rfl fun K' hK'=>?_));simp[h1,h2];repeat'(first|(apply hK';clear hK' K')|fail))|apply aqc|refine sp ?_|fail)
   exact ⟨by simp [h2],.refl _⟩
 ·repeat'(with_reducible first|(refine aqd (hK _ _ ?_);clear hK K)|refine vr [] fun K hK=>?_|((first|refine aqa fun K' hK'=>?_|(apply aqk;refine aqe rfl fun K' hK'=>?_));simp[h1];repeat'(first|(apply hK';clear hK' K')|fail))|apply aqc|refine sp ?_|fail)
  exact ⟨by simp [h1],.refl _⟩
theorem lqp {t:Int}:Ret Tryz.prog w0 164 [I t] (B (decide (5<=t/\t<=9))):=by
 intro H
 refine aqf Tryz.func164 rfl Tryz.ntmps164 (ts:=[2]) rfl (by simp) (by kernel_rfl) ?_
 by_cases h1:5<=t
 ·by_cases h2:t<=9
  ·repeat'(with_reducible first|(refine aqd (hK _ _ ?_);clear hK K)|refine vr [] fun K hK=>?_|((first|refine aqa fun K' hK'=>?_|(apply aqk;refine aqe rfl fun K' hK'=>?_));simp[h1,h2];repeat'(first|(apply hK';clear hK' K')|fail))|apply aqc|refine sp ?_|fail)
   exact ⟨by simp [h1,h2],.refl _⟩
  ·repeat'(with_reducible first|(refine aqd (hK _ _ ?_);clear hK K)|refine vr [] fun K hK=>?_|((first|refine aqa fun K' hK'=>?_|(apply aqk;refine aqe rfl fun K' hK'=>?_));simp[h1,h2];repeat'(first|(apply hK';clear hK' K')|fail))|apply aqc|refine sp ?_|fail)
   exact ⟨by simp [h2],.refl _⟩
 ·repeat'(with_reducible first|(refine aqd (hK _ _ ?_);clear hK K)|refine vr [] fun K hK=>?_|((first|refine aqa fun K' hK'=>?_|(apply aqk;refine aqe rfl fun K' hK'=>?_));simp[h1];repeat'(first|(apply hK';clear hK' K')|fail))|apply aqc|refine sp ?_|fail)
  exact ⟨by simp [h1],.refl _⟩
theorem num1_at {x most:Int} {r:Nat} {H:Heap} (hr:H r=some (.box [I most])):bqp Tryz.prog w0 208 [I x,.ptr r 0 0] (B (!(decide (0<=x)&&decide (x<=most)))) H:=by
 refine .of ?_
 have c1:=nqf (w0:=w0) (x:=x) (most:=most)
 generalize (decide (0<=x)&&decide (x<=most))=v at *
 refine aqf Tryz.func208 rfl Tryz.ntmps208 (ts:=[3]) rfl (by simp) (by kernel_rfl) ?_
 repeat'(with_reducible first|(refine aqd (hK _ _ ?_);clear hK K)|refine vr [] fun K hK=>?_|(refine aqa fun K' hK'=>?_;simp[hr];repeat'(first|(apply hK';clear hK' K')|refine Ret.use c1 ?_|fail))|apply aqc|refine sp ?_|fail)
 simp
theorem fqt {l:List Int} {many most:Int} (hl:aqz l):Ret Tryz.prog w0 192 [ints l,I many,I most] (B (numB l many most)):=by
 intro H
 refine aqf Tryz.func192 rfl Tryz.ntmps192 (ts:=[6]) rfl (by simp) (by kernel_rfl) ?_
 repeat'(with_reducible first|(refine aqd (hK _ _ ?_);clear hK K)|((fail_if_success(refine aql 1 ?_));(fail_if_success(refine(?_:AWP _ _ _ (Code.region 1 _ _) _ _ _)));refine vr [] fun K hK=>?_)|(refine aqa fun K' hK'=>?_;simp;repeat'(first|(apply hK';clear hK' K')|intro hg|fail))|fail)
 rename_i r
 have hr:H r=none:=hg
 clear hg
 obtain ⟨H1,hH1⟩:∃ H1,H1=upd H r (some (.box [I most])):=⟨_,rfl⟩
 have hsub:Sub H H1:=by rw [hH1];exact aqh hr
 have lr:H1 r=some (.box [I most]):=by rw [hH1,aqj]
 rw [<-hH1]
 clear hH1
 have c1:=fq3 (w0:=w0) (l:=l) (H:=H1) hl (fun x _=>num1_at (x:=x) lr)
 have ha:(l.any fun x=> !(decide (0<=x)&&decide (x<=most)))= !(l.all fun x=>decide (0<=x)&&decide (x<=most)):=by
  rw [List.all_eq_not_any_not];simp
 rw [ha] at c1
 by_cases e:(l.length:Int)=many
 ·repeat'(first|(with_reducible (refine aqd (hK _ _ ?_);clear hK K))|(with_reducible refine vr [] fun K hK=>?_)|((with_reducible first|refine aqa fun K' hK'=>?_|(apply aqk;refine aqe rfl fun K' hK'=>?_));simp[ints,lr,e];repeat'(first|(with_reducible (apply hK';clear hK' K'))|((with_reducible refine bqp.use c1 ?_;try simp);try simp[ints,lr,e])|fail))|(with_reducible first|apply aqc|refine sp ?_)|fail)
  exact ⟨by simp [numB,e],hsub⟩
 ·repeat'(with_reducible first|(refine aqd (hK _ _ ?_);clear hK K)|refine vr [] fun K hK=>?_|((first|refine aqa fun K' hK'=>?_|(apply aqk;refine aqe rfl fun K' hK'=>?_));simp[ints,lr,e];repeat'(first|(apply hK';clear hK' K')|fail))|apply aqc|refine sp ?_|fail)
  exact ⟨by simp [numB,e],hsub⟩
set_option maxRecDepth 20000 in
theorem depthM_ret:∀ m,LenM m->∀ k:Nat,k<=64->Ret Tryz.prog w0 162 [mtA m,I k] (I (bqm m k)):=by
 refine Mtd.ind fun t n a b l xs ih hL k hk=> ?_
 obtain ⟨hl,hr,hx,hi⟩:=hL
 intro H
 have c1:=lqp (w0:=w0) (t:=t)
 simp only [mtA,mtC]
 refine aqf Tryz.func162 rfl Tryz.ntmps162 (ts:=[4]) rfl (by simp) (by kernel_rfl) ?_
 by_cases hk0:k=0
 ·subst hk0
  repeat'(with_reducible first|(refine aqd (hK _ _ ?_);clear hK K)|refine vr [] fun K hK=>?_|((first|refine aqa fun K' hK'=>?_|refine aqb fun K' B hK' hB=>?_|(apply aqk;refine aqe rfl fun K' hK'=>?_));simp;repeat'(first|((first|refine hK' ?_|refine hB ?_);clear hK' hB K' B)|(apply hK';clear hK' K')|intro hg|fail))|apply aqc|refine sp ?_|fail)
  rw [bqm,if_neg (by omega)]
  exact ⟨by simp,aqh (by assumption)⟩
 have hk1:((k:Int)=0)=False:=eq_false (by omega)
 by_cases g3:5<=t/\t<=9
 rotate_left
 ·have hd:decide (5<=t/\t<=9)=false:=decide_eq_false g3
  rw [hd] at c1
  repeat'(with_reducible first|(refine aqd (hK _ _ ?_);clear hK K)|refine vr [] fun K hK=>?_|((first|refine aqa fun K' hK'=>?_|refine aqb fun K' B hK' hB=>?_|(apply aqk;refine aqe rfl fun K' hK'=>?_));simp[hk1,hk0];repeat'(first|((first|refine hK' ?_|refine hB ?_);clear hK' hB K' B)|(apply hK';clear hK' K')|refine Ret.use c1 ?_|intro hg|fail))|apply aqc|refine sp ?_|fail)
  rw [bqm,if_neg (fun h=>g3 h.2)]
  exact ⟨by simp,aqh (by assumption)⟩
 have hd:decide (5<=t/\t<=9)=true:=decide_eq_true g3
 rw [hd] at c1
 repeat'(with_reducible first|(refine aqd (hK _ _ ?_);clear hK K)|refine vr [] fun K hK=>?_|((first|refine aqa fun K' hK'=>?_|refine aqb fun K' B hK' hB=>?_|(apply aqk;refine aqe rfl fun K' hK'=>?_));simp[hk1,hk0];repeat'(first|((first|refine hK' ?_|refine hB ?_);clear hK' hB K' B)|(apply hK';clear hK' K')|refine Ret.use c1 ?_|intro hg|fail))|refine sp ?_|fail)
 rename_i r
 have hr0:H r=none:=hg
 clear hg
 obtain ⟨H1,hH1⟩:∃ H1,H1=upd H r (some (.box [I t,I n,I a,I b,rows l,.sl (mtCs xs) xs.length])):=⟨_,rfl⟩
 have hsub:Sub H H1:=by rw [hH1];exact aqh hr0
 rw [<-hH1]
 clear hH1 hr0
 refine aqi (fun env h=>∃ q:Nat,q<=xs.length/\Sub H1 h/\env 19=I q/\env 18=I xs.length/\env 17= .sl (mtCs xs) xs.length/\env 5=I (bqb (xs.take q) (k-1))/\env 1=I k) (fun env _=>xs.length-natA (env 19)) ?_ ?_
 ·exact ⟨0,by omega,.refl _,by simp,by simp,by simp,by simp [bqb],by simp⟩
 rintro env h ⟨q,hq,hs,h19,h18,h17,h5,h1⟩
 have hnat:natA (env 19)=q:=by simp [h19]
 rw [hnat];clear hnat
 by_cases g1:q<xs.length
 ·have hat:=dq1 g1
  have hsl:=dqb xs
  have hlt':q*6+6<=xs.length*6:=by omega
  obtain ⟨x,hx'⟩:∃ x,xs[q]=x:=⟨_,rfl⟩
  have hxm:x∈xs:=by rw [<-hx'];exact List.getElem_mem _
  have ci:=ih x hxm (hi x hxm) (k-1) (by omega)
  rw [hx'] at hat
  have e1:((k-1:Nat):Int)=k-1:=by omega
  rw [e1] at ci
  have htk:xs.take (q+1)=xs.take q++[x]:=by rw [List.take_succ_eq_append_getElem g1,hx']
  have hda:=lq9 (xs.take q) x (k-1)
  rw [<-htk] at hda
  have hcl:=cqh x
  have hone:mtA x= .agg (mtC x):=rfl
  rw [hone] at ci
  have hset6:setL [.sc (.int .i64 0),.sc (.int .i64 0),.sc (.int .i64 0),.sc (.int .i64 0),.sc (.slice none 0 0),.sc (.slice none 0 0)] 0 (mtC x)=mtC x:=by cases x;rfl
  have ht6:(mtC x).take 6=mtC x:=List.take_of_length_le (by omega)
  generalize bqb (xs.take q) (k-1)=d at *
  generalize bqm x (k-1)=d' at *
  repeat'(with_reducible first|(refine aqd (hK _ _ ?_);clear hK K)|refine vr [] fun K hK=>?_|((first|refine aqa fun K' hK'=>?_|refine aqb fun K' B hK' hB=>?_);simp[h19,h18,h17,h5,h1,g1,hat,hsl,hlt',hset6,ht6,hcl];repeat'(first|((first|refine hK' ?_|refine hB ?_);clear hK' hB K' B)|(apply hK';clear hK' K')|refine Ret.use ci ?_|refine And.intro ?_ ?_|intro hg|(clear hK' K';omega)))|refine sp ?_|fail)
  refine ⟨⟨q+1,by omega,hs.trans (aqh (by assumption)),by simp,by simp [h18],by simp [h17],by rw [hda];simp;omega,by simp [h1]⟩,by simp;omega⟩
 ·rw [List.take_of_length_le (by omega)] at h5
  have hd2:bqm (.mk t n a b l xs) k=bqb xs (k-1)+1:=by rw [bqm,if_pos ⟨by omega,g3⟩]
  have hdl:=iqc (.mk t n a b l xs) k
  rw [hd2] at hdl ⊢
  generalize bqb xs (k-1)=w at *
  repeat'(with_reducible first|(refine aqd (hK _ _ ?_);clear hK K)|refine vr [] fun K hK=>?_|((first|refine aqa fun K' hK'=>?_|refine aqb fun K' B hK' hB=>?_);simp[h19,h18,h17,h5,h1,g1];repeat'(first|((first|refine hK' ?_|refine hB ?_);clear hK' hB K' B)|(apply hK';clear hK' K')|refine And.intro ?_ ?_|(clear hK' K';omega)))|apply aqc|refine sp ?_|fail)
  exact ⟨by simp,hsub.trans hs⟩
theorem DeepM_ret {m:Mtd} (hm:LenM m):Ret Tryz.prog w0 127 [mtA m] (I (bqm m 4)):=by
 intro H
 have c1:Ret Tryz.prog w0 162 [mtA m,I 4] (I (bqm m 4)):=depthM_ret (w0:=w0) m hm 4 (by omega)
 obtain ⟨t,n,a,b,l,xs⟩:=m
 simp only [mtA,mtC] at c1 ⊢
 refine aqf Tryz.func127 rfl Tryz.ntmps127 (ts:=[2]) rfl (by simp) (by kernel_rfl) ?_
 repeat'(with_reducible first|(refine aqd (hK _ _ ?_);clear hK K)|refine vr [] fun K hK=>?_|(refine aqa fun K' hK'=>?_;simp;repeat'(first|(apply hK';clear hK' K')|refine Ret.use c1 ?_|intro hg|fail))|apply aqc|refine sp ?_|fail)
 exact ⟨by simp,aqh (by assumption)⟩
theorem row1_at {r:List Int} {a:Int} {q:Nat} {cells:List AV} {H:Heap} (hr:aqz r) (ha:0<=a/\a<=64) (hq:H q=some (.box cells)) (hc:cells[2]? =some (I a)):bqp Tryz.prog w0 191 [ints r,.ptr q 0 0] (B (!numB r 2 (a-1))) H:=by
 refine .of ?_
 have c1:=fqt (w0:=w0) (l:=r) (many:=2) (most:=a-1) hr
 generalize numB r 2 (a-1)=v at *
 refine aqf Tryz.func191 rfl Tryz.ntmps191 (ts:=[3]) rfl (by simp) (by kernel_rfl) ?_
 repeat'(with_reducible first|(refine aqd (hK _ _ ?_);clear hK K)|refine vr [] fun K hK=>?_|(refine aqa fun K' hK'=>?_;simp[hq,hc];repeat'(first|(apply hK';clear hK' K')|refine Ret.use c1 ?_|refine And.intro ?_ ?_|(clear hK' K';omega)))|apply aqc|refine sp ?_|fail)
 simp
set_option maxRecDepth 20000 in
set_option maxHeartbeats 4000000 in
theorem plainM_ret {t n a b:Int} {l:List (List Int)} {xs:List Mtd} (h:OkT (.mk t n a b l xs)) (g:¬(5<=t/\t<=9)):Ret Tryz.prog w0 165 [mtA (.mk t n a b l xs)] (B true):=by
 have hp:=h.plain g
 have hn:=h.n0
 obtain ⟨hl,hr,hx,hb100,hi⟩:=h.nice
 unfold bqz at hp
 simp only [Bool.and_eq_true,decide_eq_true_eq] at hp
 obtain ⟨⟨hx0,hb0⟩,hp⟩:=hp
 intro H
 simp only [mtA,mtC]
 refine aqf Tryz.func165 rfl Tryz.ntmps165 (ts:=[2]) rfl (by simp) (by kernel_rfl) ?_
 by_cases e0:t=0
 ·rw [if_pos e0] at hp
  subst e0
  simp only [Bool.and_eq_true,decide_eq_true_eq] at hp
  have hb1:b=0:=by simpa using hb0
  have hl0:l=[]:=List.length_eq_zero_iff.1 hp.2
  subst hl0
  repeat'(with_reducible first|(refine sp (hK _ _ ?_);clear hK K)|refine vr [] fun K hK=>?_|((first|refine aqa fun K' hK'=>?_|refine aqb fun K' B hK' hB=>?_|(apply aqk;refine aqe rfl fun K' hK'=>?_));simp[hp.1,hb1,rows];repeat'(first|((first|refine hK' ?_|refine hB ?_);clear hK' hB K' B)|(apply hK';clear hK' K')|intro hg|fail))|apply aqc|refine sp ?_|fail)
  exact ⟨by simp,aqh (by assumption)⟩
 rw [if_neg e0] at hp
 by_cases e1:t=1
 ·rw [if_pos e1] at hp
  subst e1
  simp only [Bool.and_eq_true,decide_eq_true_eq] at hp
  have hb1:b=0:=by simpa using hb0
  repeat'(with_reducible first|(refine sp (hK _ _ ?_);clear hK K)|((fail_if_success(refine aql 1 ?_));(fail_if_success(refine(?_:AWP _ _ _ (Code.region 1 _ _) _ _ _)));refine vr [] fun K hK=>?_)|(refine aqa fun K' hK'=>?_;simp;repeat'(first|(apply hK';clear hK' K')|intro hg|fail))|((fail_if_success(refine aql 1 ?_));refine sp ?_)|fail)
  rename_i r
  have hr0:H r=none:=hg
  clear hg
  obtain ⟨H1,hH1⟩:∃ H1,H1=upd H r (some (.box [I 1,I n,I a,I b,rows l,.sl (mtCs xs) xs.length])):=⟨_,rfl⟩
  have hsub:Sub H H1:=by rw [hH1];exact aqh hr0
  have lr:H1 r=some (.box [I 1,I n,I a,I b,rows l,.sl (mtCs xs) xs.length]):=by rw [hH1,aqj]
  rw [<-hH1]
  clear hH1
  have c1:=cqx (w0:=w0) (ls:=l) (H:=H1) hl (fun y hy=>row1_at (r:=y) (hr y hy) hn.2.2 lr rfl)
  have ha:(l.any fun y=> !numB y 2 (a-1))=false:=by
   have:(l.any fun y=> !numB y 2 (a-1))= !(l.all fun y=>numB y 2 (a-1)):=by rw [List.all_eq_not_any_not];simp
   rw [this,hp.1.1];rfl
  rw [ha] at c1
  have k1:=hp.1.2
  have k2:=hp.2
  simp only [rows] at c1
  repeat'(first|(with_reducible (refine sp (hK _ _ ?_);clear hK K))|(with_reducible refine vr [] fun K hK=>?_)|((with_reducible first|refine aqa fun K' hK'=>?_|refine aqb fun K' B hK' hB=>?_|(apply aqk;refine aqe rfl fun K' hK'=>?_));simp[lr,k1,k2,hb1,rows];repeat'(first|(with_reducible first|((first|refine hK' ?_|refine hB ?_);clear hK' hB K' B)|(apply hK';clear hK' K'))|((with_reducible refine bqp.use c1 ?_;try simp);try simp[lr,k1,k2,hb1,rows])|fail))|(with_reducible first|apply aqc|refine sp ?_)|fail)
  exact ⟨by simp,hsub⟩
 rw [if_neg e1] at hp
 by_cases e2:t=2
 ·rw [if_pos e2] at hp
  subst e2
  simp only [Bool.and_eq_true,decide_eq_true_eq] at hp
  have hb1:b=0:=by simpa using hb0
  match l,hp with
  | [u,w],hp=>
   have c1:=fqt (w0:=w0) (l:=u) (many:=n) (most:=a-1) (hr u (by simp))
   have c2:=fqt (w0:=w0) (l:=w) (many:=a) (most:=64) (hr w (by simp))
   have f0:([u,w]:List (List Int)).getD 0 []=u:=rfl
   have f1:([u,w]:List (List Int)).getD 1 []=w:=rfl
   rw [f0,f1] at hp
   rw [hp.1.2] at c1
   rw [hp.2] at c2
   repeat'(with_reducible first|(refine sp (hK _ _ ?_);clear hK K)|refine vr [] fun K hK=>?_|(refine vd [] [] mixed fun K hK=>?_)|((first|refine aqa fun K' hK'=>?_|refine aqb fun K' B hK' hB=>?_|refine aqn fun K' hK'=>?_|(apply bq8;refine aqt rfl fun K' hK'=>?_));simp[hb1,rows];repeat'(first|((first|refine hK' ?_|refine hB ?_);clear hK' hB K' B)|(apply hK';clear hK' K')|refine Ret.use c1 ?_|refine Ret.use c2 ?_|refine And.intro ?_ ?_|intro hg|(clear hK' K';omega)))|apply aqc|refine sp ?_|fail)
   exact ⟨by simp,aqh (by assumption)⟩
 rw [if_neg e2] at hp
 by_cases e3:t=3
 ·rw [if_pos e3] at hp
  subst e3
  simp only [Bool.and_eq_true,decide_eq_true_eq] at hp
  have hb1:b=0:=by simpa using hb0
  have c1:=jqa (w0:=w0) (n:=a) hl hr
  rw [hp.2] at c1
  simp only [rows] at c1
  have k2:=hp.1
  repeat'(with_reducible first|(refine sp (hK _ _ ?_);clear hK K)|refine vr [] fun K hK=>?_|((first|refine aqa fun K' hK'=>?_|refine aqb fun K' B hK' hB=>?_|(apply aqk;refine aqe rfl fun K' hK'=>?_));simp[hb1,k2,rows];repeat'(first|((first|refine hK' ?_|refine hB ?_);clear hK' hB K' B)|(apply hK';clear hK' K')|refine Ret.use c1 ?_|intro hg|fail))|apply aqc|refine sp ?_|fail)
  exact ⟨by simp,aqh (by assumption)⟩
 rw [if_neg e3] at hp
 by_cases e4:t=4
 ·rw [if_pos e4] at hp
  subst e4
  simp only [Bool.and_eq_true,decide_eq_true_eq] at hp
  have c1:=gq6 (w0:=w0) (p:=b) (n:=a) hb100 hl hr
  rw [hp.2] at c1
  simp only [rows] at c1
  have k2:=hp.1
  repeat'(with_reducible first|(refine sp (hK _ _ ?_);clear hK K)|refine vr [] fun K hK=>?_|((first|refine aqa fun K' hK'=>?_|refine aqb fun K' B hK' hB=>?_|(apply aqk;refine aqe rfl fun K' hK'=>?_));simp[k2,rows];repeat'(first|((first|refine hK' ?_|refine hB ?_);clear hK' hB K' B)|(apply hK';clear hK' K')|refine Ret.use c1 ?_|intro hg|fail))|apply aqc|refine sp ?_|fail)
  exact ⟨by simp,aqh (by assumption)⟩
 rw [if_neg e4] at hp
 simp at hp
end Go.Am
namespace Go.Am
open Go Go.Proofs
set_option linter.unusedVariables false
set_option linter.unusedSimpArgs false
variable {w0:World}
attribute [local irreducible] AWP aqo
attribute [local congr] aqp
set_option maxRecDepth 20000 in
theorem partM_ret {t n a b:Int} {x:Mtd} {T:FS} (hT:T⊆FS.upTo x.n.toNat) (x0:0<=x.n) (x64:x.n<=64):Ret Tryz.prog w0 195 [mtA (.mk t n a b [T.l] [x])] (.tup [ints T.l,B true]):=by
 have hset:=cqg hT (by omega)
 have hlen:=bqt hT
 have c1:=dqj (w0:=w0) (l:=T.l) (by omega)
 rw [aqs.2 hset] at c1
 intro H
 simp only [mtA,mtC]
 have hone:mtCs [x]=[I x.tag,I x.n,I x.a,I x.b,rows x.list,.sl (mtCs x.inner) x.inner.length]:=by cases x;rfl
 rw [hone]
 by_cases hne:T.l=[]
 ·rw [hne] at c1 ⊢
  simp only [ints,List.map_nil,List.length_nil] at c1
  refine aqf Tryz.func195 rfl Tryz.ntmps195 (ts:=[2,3]) rfl (by simp) (by kernel_rfl) ?_
  repeat'(with_reducible first|(refine sp (hK _ _ ?_);clear hK K)|refine vr [] fun K hK=>?_|(refine vd [] [] mixed fun K hK=>?_)|((first|refine aqa fun K' hK'=>?_|refine aqb fun K' B hK' hB=>?_|refine aqn fun K' hK'=>?_|(apply aqk;refine aqe rfl fun K' hK'=>?_)|(apply bq8;refine aqt rfl fun K' hK'=>?_));simp[rows,ints];repeat'(first|((first|refine hK' ?_|refine hB ?_);clear hK' hB K' B)|(apply hK';clear hK' K')|refine Ret.use c1 ?_|intro hg|fail))|apply aqc|refine sp ?_|fail)
  exact ⟨by simp,aqh (by assumption)⟩
 ·have hpos:=List.length_pos_iff.2 hne
  have hlt:T.l.length-1<T.l.length:=by omega
  obtain ⟨y,hy⟩:∃ y,T.l[T.l.length-1]=y:=⟨_,rfl⟩
  have hgy:∀ h,T.l[T.l.length-1]'h=y:=fun _=>hy
  have hgo:T.l[T.l.length-1]? =some y:=by simp [hlt,hy]
  have hyn:y<x.n:=by
   have:=FS.mem_upTo.1 (hT y (by rw [<-bqa,<-hy];exact List.getElem_mem _))
   omega
  have hi:((T.l.length:Int)-1).toNat=T.l.length-1:=by omega
  have hi0:(0:Int)<=(T.l.length:Int)-1:=by omega
  simp only [ints] at c1
  refine aqf Tryz.func195 rfl Tryz.ntmps195 (ts:=[2,3]) rfl (by simp) (by kernel_rfl) ?_
  repeat'(with_reducible first|(refine sp (hK _ _ ?_);clear hK K)|refine vr [] fun K hK=>?_|(refine vd [] [] mixed fun K hK=>?_)|((first|refine aqa fun K' hK'=>?_|refine aqb fun K' B hK' hB=>?_|refine aqn fun K' hK'=>?_|(apply aqk;refine aqe rfl fun K' hK'=>?_)|(apply bq8;refine aqt rfl fun K' hK'=>?_));simp[rows,ints,hne,hi,hi0,hlt,hgy,hgo,hyn];repeat'(first|((first|refine hK' ?_|refine hB ?_);clear hK' hB K' B)|(apply hK';clear hK' K')|refine Ret.use c1 ?_|refine And.intro ?_ ?_|intro hg|(clear hK' K';omega)))|apply aqc|refine sp ?_|fail)
  exact ⟨by simp [ints],aqh (by assumption)⟩
set_option maxRecDepth 20000 in
set_option maxHeartbeats 4000000 in
theorem outerM_ret {t n a b:Int} {l:List (List Int)} {xs:List Mtd} (h:OkT (.mk t n a b l xs)) (g:5<=t/\t<=9):Ret Tryz.prog w0 166 [mtA (.mk t n a b l xs)] (B true):=by
 obtain ⟨j1,j2,j3,j4,j5,hx,j7⟩:=h.nest g
 have hn:=h.n0
 have hb1:(b=0)=True:=eq_true j1
 intro H
 by_cases e56:t=5\/t=6
 ·obtain ⟨x,T,rfl,rfl,hOx,hT,x0,x64,i1,i2,i3⟩:=h.five e56
  have c1:=partM_ret (w0:=w0) (t:=t) (n:=n) (a:=a) (b:=b) hT x0 x64
  rw [if_neg (by omega)] at j7
  obtain ⟨T',hTT,_,hnn⟩:=j7
  have hTe:T'.l=T.l:=by injection hTT with e _;exact e.symm
  rw [hTe,hqi] at hnn
  have ha0:(a=0)=True:=eq_true (by omega)
  have e7:(t=7)=False:=eq_false (by omega)
  have e9:(t=9)=False:=eq_false (by omega)
  have g7:¬7<=t:=by omega
  have hTl:=bqt hT
  simp only [mtA,mtC] at c1 ⊢
  have hone:mtCs [x]=[I x.tag,I x.n,I x.a,I x.b,rows x.list,.sl (mtCs x.inner) x.inner.length]:=by cases x;rfl
  rw [hone] at c1 ⊢
  simp only [rows,ints,List.map_cons,List.map_nil,List.length_singleton] at c1
  rcases e56 with e5 | e6
  ·have e5':(t=5)=True:=eq_true e5
   rw [if_pos e5] at hnn
   refine aqf Tryz.func166 rfl Tryz.ntmps166 (ts:=[2]) rfl (by simp) (by kernel_rfl) ?_
   repeat'(with_reducible first|(refine sp (hK _ _ ?_);clear hK K)|refine vr [] fun K hK=>?_|((first|refine aqa fun K' hK'=>?_|refine aqb fun K' B hK' hB=>?_|(apply aqk;refine aqe rfl fun K' hK'=>?_));simp[hb1,ha0,e7,e9,g7,e5',rows,ints,(eq_true hnn)];repeat'(first|((first|refine hK' ?_|refine hB ?_);clear hK' hB K' B)|(apply hK';clear hK' K')|refine Ret.use c1 ?_|intro hg|fail))|apply aqc|refine sp ?_|fail)
   exact ⟨by simp,aqh (by assumption)⟩
  ·have e6':(t=6)=True:=eq_true e6
   have e5':(t=5)=False:=eq_false (by omega)
   rw [if_neg (by omega)] at hnn
   refine aqf Tryz.func166 rfl Tryz.ntmps166 (ts:=[2]) rfl (by simp) (by kernel_rfl) ?_
   repeat'(with_reducible first|(refine sp (hK _ _ ?_);clear hK K)|refine vr [] fun K hK=>?_|(refine vd [] [] mixed fun K hK=>?_)|((first|refine aqa fun K' hK'=>?_|refine aqb fun K' B hK' hB=>?_|refine aqn fun K' hK'=>?_|(apply aqk;refine aqe rfl fun K' hK'=>?_)|(apply bq8;refine aqt rfl fun K' hK'=>?_));simp[hb1,ha0,e7,e9,g7,e5',e6',rows,ints,(eq_true hnn)];repeat'(first|((first|refine hK' ?_|refine hB ?_);clear hK' hB K' B)|(apply hK';clear hK' K')|refine Ret.use c1 ?_|refine And.intro ?_ ?_|intro hg|(clear hK' K';omega)))|apply aqc|refine sp ?_|fail)
   exact ⟨by simp,aqh (by assumption)⟩
 have e5':(t=5)=False:=eq_false (fun k=>e56 (.inl k))
 have e6':(t=6)=False:=eq_false (fun k=>e56 (.inr k))
 have g7:7<=t:=by omega
 rw [if_pos g7] at j7
 obtain ⟨rfl,hnS⟩:=j7
 simp only [mtA,mtC]
 by_cases e9:t=9
 ·have e9':(t=9)=True:=eq_true e9
  have e7:(t=7)=False:=eq_false (by omega)
  have ha0:(a=0)=True:=eq_true (by omega)
  have hxb:∀ y∈xs,0<=y.n/\y.n<=64:=fun y hy=>bq1 (hx y hy).may
  refine aqf Tryz.func166 rfl Tryz.ntmps166 (ts:=[2]) rfl (by simp) (by kernel_rfl) ?_
  repeat'(with_reducible first|(refine sp (hK _ _ ?_);clear hK K)|refine vr [] fun K hK=>?_|((first|refine aqa fun K' hK'=>?_|refine aqb fun K' B hK' hB=>?_|(apply aqk;refine aqe rfl fun K' hK'=>?_));simp[hb1,ha0,e7,e9',g7,rows];repeat'(first|((first|refine hK' ?_|refine hB ?_);clear hK' hB K' B)|(apply hK';clear hK' K')|intro hg|fail))|refine sp ?_|fail)
  rename_i r
  have hr0:H r=none:=hg
  clear hg
  obtain ⟨H1,hH1⟩:∃ H1,H1=upd H r (some (.box [I t,I n,I a,I b,.sl [] 0,.sl (mtCs xs) xs.length])):=⟨_,rfl⟩
  have hsub:Sub H H1:=by rw [hH1];exact aqh hr0
  have lr:H1 r=some (.box [I t,I n,I a,I b,.sl [] 0,.sl (mtCs xs) xs.length]):=by rw [hH1,aqj]
  rw [<-hH1]
  clear hH1 hr0
  refine aqi (fun env h=>∃ q:Nat,q<=xs.length/\Sub H1 h/\env 40=I q/\env 39=I xs.length/\env 38= .sl (mtCs xs) xs.length/\env 3=I (sumN (xs.take q))/\env 1= .ptr r 0 0) (fun env _=>xs.length-natA (env 40)) ?_ ?_
  ·exact ⟨0,by omega,.refl _,by simp,by simp,by simp,by simp [sumN],by simp⟩
  rintro env h' ⟨q,hq,hs,h40,h39,h38,h3,h1⟩
  have hnat:natA (env 40)=q:=by simp [h40]
  rw [hnat];clear hnat
  have lr':=hs _ _ lr
  by_cases g1:q<xs.length
  ·have hat:=dq1 g1
   have hsl:=dqb xs
   have hlt':q*6+6<=xs.length*6:=by omega
   obtain ⟨x,hx'⟩:∃ x,xs[q]=x:=⟨_,rfl⟩
   have hxm:x∈xs:=by rw [<-hx'];exact List.getElem_mem _
   rw [hx'] at hat
   have hxn:=hxb x hxm
   have c1:=nqf (w0:=w0) (x:=x.n) (most:=64)
   have hd:(decide (0<=x.n)&&decide (x.n<=64))=true:=by simp;omega
   rw [hd] at c1
   have htk:xs.take (q+1)=xs.take q++[x]:=by rw [List.take_succ_eq_append_getElem g1,hx']
   have hsa:=sumN_app (xs.take q) x
   rw [<-htk] at hsa
   have hbn:=hqj (xs:=xs.take q) fun z hz=>hxb z (List.mem_of_mem_take hz)
   have htl:(xs.take q).length<=8:=by rw [List.length_take];omega
   have hcl:=cqh x
   have hset6:setL [.sc (.int .i64 0),.sc (.int .i64 0),.sc (.int .i64 0),.sc (.int .i64 0),.sc (.slice none 0 0),.sc (.slice none 0 0)] 0 (mtC x)=mtC x:=by cases x;rfl
   have hx1:(mtC x)[1]? =some (I x.n):=by cases x;rfl
   have hx1':∀ h,(mtC x)[1]'h=I x.n:=fun h=>mtC_at1
   generalize sumN (xs.take q)=sq at *
   repeat'(with_reducible first|(refine sp (hK _ _ ?_);clear hK K)|refine vr [] fun K hK=>?_|((first|refine aqa fun K' hK'=>?_|refine aqb fun K' B hK' hB=>?_);simp[h40,h39,h38,h3,h1,g1,hat,hsl,hlt',hset6,hcl,hx1,hx1'];repeat'(first|((first|refine hK' ?_|refine hB ?_);clear hK' hB K' B)|(apply hK';clear hK' K')|refine Ret.use c1 ?_|refine And.intro ?_ ?_|intro hg|(clear hK' K';omega)))|refine sp ?_|fail)
   refine ⟨⟨q+1,by omega,hs.trans (aqh (by assumption)),by simp,by simp [h39],by simp [h38],by rw [hsa];simp,by simp [h1]⟩,by simp;omega⟩
  ·rw [List.take_of_length_le (by omega)] at h3
   have k1:(1:Int)<=xs.length:=by omega
   have k2:(xs.length:Int)<=8:=by omega
   rw [<-hnS] at h3
   repeat'(with_reducible first|(refine sp (hK _ _ ?_);clear hK K)|refine vr [] fun K hK=>?_|((first|refine aqa fun K' hK'=>?_|refine aqb fun K' B hK' hB=>?_|(apply aqk;refine aqe rfl fun K' hK'=>?_));simp[h40,h39,h38,h3,h1,g1,lr',k1,k2];repeat'(first|((first|refine hK' ?_|refine hB ?_);clear hK' hB K' B)|(apply hK';clear hK' K')|fail))|apply aqc|refine sp ?_|fail)
   exact ⟨by simp,hsub.trans hs⟩
 have e9':(t=9)=False:=eq_false e9
 obtain ⟨x,rfl⟩:=nH_sum j3 (by omega)
 rw [hqi] at hnS
 have hone:mtCs [x]=[I x.tag,I x.n,I x.a,I x.b,rows x.list,.sl (mtCs x.inner) x.inner.length]:=by cases x;rfl
 rw [hone]
 by_cases e7:t=7
 ·have e7':(t=7)=True:=eq_true e7
  refine aqf Tryz.func166 rfl Tryz.ntmps166 (ts:=[2]) rfl (by simp) (by kernel_rfl) ?_
  repeat'(with_reducible first|(refine sp (hK _ _ ?_);clear hK K)|refine vr [] fun K hK=>?_|(refine vd [] [] mixed fun K hK=>?_)|((first|refine aqa fun K' hK'=>?_|refine aqb fun K' B hK' hB=>?_|refine aqn fun K' hK'=>?_|(apply aqk;refine aqe rfl fun K' hK'=>?_));simp[hb1,e7',e9',g7,e5',e6',rows,(eq_true hnS)];repeat'(first|((first|refine hK' ?_|refine hB ?_);clear hK' hB K' B)|(apply hK';clear hK' K')|intro hg|fail))|apply aqc|refine sp ?_|fail)
  exact ⟨by simp,aqh (by assumption)⟩
 ·have e7':(t=7)=False:=eq_false e7
  have ha0:(a=0)=True:=eq_true (by omega)
  refine aqf Tryz.func166 rfl Tryz.ntmps166 (ts:=[2]) rfl (by simp) (by kernel_rfl) ?_
  repeat'(with_reducible first|(refine sp (hK _ _ ?_);clear hK K)|refine vr [] fun K hK=>?_|(refine vd [] [] mixed fun K hK=>?_)|((first|refine aqa fun K' hK'=>?_|refine aqb fun K' B hK' hB=>?_|refine aqn fun K' hK'=>?_|(apply aqk;refine aqe rfl fun K' hK'=>?_));simp[hb1,ha0,e7',e9',g7,e5',e6',rows,(eq_true hnS)];repeat'(first|((first|refine hK' ?_|refine hB ?_);clear hK' hB K' B)|(apply hK';clear hK' K')|intro hg|fail))|apply aqc|refine sp ?_|fail)
  exact ⟨by simp,aqh (by assumption)⟩
end Go.Am
namespace Go.Am
open Go Go.Proofs
set_option linter.unusedVariables false
set_option linter.unusedSimpArgs false
variable {w0:World}
attribute [local irreducible] AWP aqo
attribute [local congr] aqp
def noErr:AV:= .sc .nilIface
set_option maxRecDepth 20000 in
set_option maxHeartbeats 4000000 in
theorem checkM_ret:∀ m,OkT m->Ret Tryz.prog w0 128 [mtA m] noErr:=by
 refine Mtd.ind fun t n a b l xs ih h=> ?_
 have hn:=h.n0
 have c1:=nqf (w0:=w0) (x:=n) (most:=64)
 have d1:(decide (0<=n)&&decide (n<=64))=true:=by simp;omega
 rw [d1] at c1
 have c2:=nqf (w0:=w0) (x:=a) (most:=64)
 have d2:(decide (0<=a)&&decide (a<=64))=true:=by simp;omega
 rw [d2] at c2
 have c3:=lqp (w0:=w0) (t:=t)
 intro H
 by_cases g:5<=t/\t<=9
 ·have c4:=outerM_ret (w0:=w0) h g
  rw [decide_eq_true g] at c3
  obtain ⟨_,_,_,_,_,hx,_⟩:=h.nest g
  simp only [mtA,mtC] at c4 ⊢
  refine aqf Tryz.func128 rfl Tryz.ntmps128 (ts:=[2]) rfl (by simp) (by kernel_rfl) ?_
  repeat'(with_reducible first|(refine aqd (hK _ _ ?_);clear hK K)|refine vr [] fun K hK=>?_|((first|refine aqa fun K' hK'=>?_|refine aqb fun K' B hK' hB=>?_|(apply aqk;refine aqe rfl fun K' hK'=>?_));simp;repeat'(first|((first|refine hK' ?_|refine hB ?_);clear hK' hB K' B)|(apply hK';clear hK' K')|refine Ret.use c1 ?_|refine Ret.use c2 ?_|refine Ret.use c3 ?_|refine Ret.use c4 ?_|intro hg|fail))|refine sp ?_|fail)
  refine aqi (fun env h=>∃ q:Nat,q<=xs.length/\Sub H h/\env 47=I q/\env 46=I xs.length/\env 45= .sl (mtCs xs) xs.length) (fun env _=>xs.length-natA (env 47)) ?_ ?_
  ·exact ⟨0,by omega,aqh (by assumption),by simp,by simp,by simp⟩
  rintro env h' ⟨q,hq,hs,h47,h46,h45⟩
  have hnat:natA (env 47)=q:=by simp [h47]
  rw [hnat];clear hnat
  by_cases g1:q<xs.length
  ·have hat:=dq1 g1
   have hsl:=dqb xs
   have hlt':q*6+6<=xs.length*6:=by omega
   obtain ⟨x,hx'⟩:∃ x,xs[q]=x:=⟨_,rfl⟩
   have hxm:x∈xs:=by rw [<-hx'];exact List.getElem_mem _
   rw [hx'] at hat
   have ci:=ih x hxm (hx x hxm)
   have hone:mtA x= .agg (mtC x):=rfl
   rw [hone] at ci
   have hcl:=cqh x
   have ht6:(mtC x).take 6=mtC x:=List.take_of_length_le (by omega)
   have hset6:setL [.sc (.int .i64 0),.sc (.int .i64 0),.sc (.int .i64 0),.sc (.int .i64 0),.sc (.slice none 0 0),.sc (.slice none 0 0)] 0 (mtC x)=mtC x:=by cases x;rfl
   simp only [noErr] at ci
   repeat'(with_reducible first|(refine aqd (hK _ _ ?_);clear hK K)|refine vr [] fun K hK=>?_|((first|refine aqa fun K' hK'=>?_|refine aqb fun K' B hK' hB=>?_);simp[h47,h46,h45,g1,hat,hsl,hlt',hset6,ht6,hcl];repeat'(first|((first|refine hK' ?_|refine hB ?_);clear hK' hB K' B)|(apply hK';clear hK' K')|refine Ret.use ci ?_|refine And.intro ?_ ?_|intro hg|(clear hK' K';omega)))|refine sp ?_|fail)
   exact ⟨⟨q+1,by omega,hs.trans (aqh (by assumption)),by simp,by simp [h46],by simp [h45]⟩,by simp;omega⟩
  ·repeat'(with_reducible first|(refine aqd (hK _ _ ?_);clear hK K)|refine vr [] fun K hK=>?_|((first|refine aqa fun K' hK'=>?_|refine aqb fun K' B hK' hB=>?_);simp[h47,h46,h45,g1];repeat'(first|((first|refine hK' ?_|refine hB ?_);clear hK' hB K' B)|(apply hK';clear hK' K')|fail))|apply aqc|refine sp ?_|fail)
   exact ⟨by simp [noErr],hs⟩
 ·have c4:=plainM_ret (w0:=w0) h g
  rw [decide_eq_false g] at c3
  have hp:=h.plain g
  unfold bqz at hp
  simp only [Bool.and_eq_true,decide_eq_true_eq] at hp
  have hxs:xs=[]:=List.length_eq_zero_iff.1 hp.1.1
  subst hxs
  simp only [mtA,mtC,mtCs,List.length_nil] at c4 ⊢
  refine aqf Tryz.func128 rfl Tryz.ntmps128 (ts:=[2]) rfl (by simp) (by kernel_rfl) ?_
  repeat'(with_reducible first|(refine aqd (hK _ _ ?_);clear hK K)|refine vr [] fun K hK=>?_|((first|refine aqa fun K' hK'=>?_|refine aqb fun K' B hK' hB=>?_|(apply aqk;refine aqe rfl fun K' hK'=>?_));simp;repeat'(first|((first|refine hK' ?_|refine hB ?_);clear hK' hB K' B)|(apply hK';clear hK' K')|refine Ret.use c1 ?_|refine Ret.use c2 ?_|refine Ret.use c3 ?_|refine Ret.use c4 ?_|intro hg|fail))|refine sp ?_|fail)
  refine aqi (fun env h=>Sub H h/\env 46=I 0/\env 47=I 0) (fun env _=>0) ?_ ?_
  ·exact ⟨aqh (by assumption),by simp,by simp⟩
  rintro env h' ⟨hs,h46,h47⟩
  repeat'(with_reducible first|(refine aqd (hK _ _ ?_);clear hK K)|refine vr [] fun K hK=>?_|((first|refine aqa fun K' hK'=>?_|refine aqb fun K' B hK' hB=>?_);simp[h46,h47];repeat'(first|((first|refine hK' ?_|refine hB ?_);clear hK' hB K' B)|(apply hK';clear hK' K')|fail))|apply aqc|refine sp ?_|fail)
  exact ⟨by simp [noErr],hs⟩
set_option maxRecDepth 20000 in
theorem gqh {m:Mtd} (h:OkT m):Ret Tryz.prog w0 96 [mtA m] (I 0):=by
 have c1:=DeepM_ret (w0:=w0) h.nice.len
 have c2:=checkM_ret (w0:=w0) m h
 have hd:=h.deep
 intro H
 obtain ⟨t,n,a,b,l,xs⟩:=m
 simp only [mtA,mtC,noErr] at c1 c2 ⊢
 generalize bqm (.mk t n a b l xs) 4=d at *
 have g:¬(4:Int)<d:=by omega
 refine aqf Tryz.func96 rfl Tryz.ntmps96 (ts:=[2]) rfl (by simp) (by kernel_rfl) ?_
 repeat'(with_reducible first|(refine aqd (hK _ _ ?_);clear hK K)|refine vr [] fun K hK=>?_|((first|refine aqa fun K' hK'=>?_|refine aqb fun K' B hK' hB=>?_);simp[g];repeat'(first|((first|refine hK' ?_|refine hB ?_);clear hK' hB K' B)|(apply hK';clear hK' K')|refine Ret.use c1 ?_|refine Ret.use c2 ?_|intro hg|fail))|apply aqc|refine sp ?_|fail)
 rename_i r1 h1 r2
 exact ⟨by simp,(aqh h1).trans (aqh hg)⟩
set_option maxRecDepth 20000 in
set_option maxHeartbeats 2000000 in
theorem mqj {t n a b:Int} {l:List (List Int)} {xs:List Mtd} (h:OkT (.mk t n a b l xs)) (g:t=5\/t=6) (s:FS) (hs:s⊆FS.upTo n.toNat):
  Ret Tryz.prog w0 132 [mtA (.mk t n a b l xs),ints s.l] (.tup [ints (img (imgL t l xs) s).l,B true]):=by
 have c1:=gqh (w0:=w0) h
 have hn:=h.n0
 have hset:=cqg hs (by omega)
 have hsl:=bqt hs
 have c2:=dqj (w0:=w0) (l:=s.l) (by omega)
 rw [aqs.2 hset] at c2
 obtain ⟨x,T,rfl,rfl,hx,hT,x0,x64,i1,i2,i3⟩:=h.five g
 have hTs:=cqg hT (by omega)
 have hTl:=bqt hT
 have himg:=nqh i1 (s:=s) fun y hy=>by have:=FS.mem_upTo.1 (hs y hy);omega
 rw [himg]
 obtain ⟨L,hL⟩:∃ L,imgL t [T.l] [x]=L:=⟨_,rfl⟩
 rw [hL] at i1 i2 i3 ⊢
 have hin:∀ y,y∈s->0<=y/\y<L.length:=fun y hy=>by have:=FS.mem_upTo.1 (hs y hy);omega
 have hsl':s.l.length<=64:=by omega
 have hLl:L.length<=64:=by omega
 intro H
 simp only [mtA,mtC] at c1 ⊢
 have hone:mtCs [x]=[I x.tag,I x.n,I x.a,I x.b,rows x.list,.sl (mtCs x.inner) x.inner.length]:=by cases x;rfl
 rw [hone] at c1 ⊢
 simp only [rows,ints,List.map_cons,List.map_nil,List.length_singleton] at c1
 simp only [ints] at c2
 have hi:((s.l.length:Int)-1).toNat=s.l.length-1:=by omega
 have lst:s.l=[]\/∃ y,0<s.l.length/\(∀ h,s.l[s.l.length-1]'h=y)/\s.l[s.l.length-1]? =some y/\¬n<=y:=by
  by_cases hne:s.l=[]
  ·exact .inl hne
  ·have hpos:=List.length_pos_iff.2 hne
   have hlt:s.l.length-1<s.l.length:=by omega
   refine .inr ⟨s.l[s.l.length-1],hpos,fun _=>rfl,List.getElem?_eq_getElem hlt,?_⟩
   have:=FS.mem_upTo.1 (hs _ (bqa.1 (List.getElem_mem hlt)))
   omega
 have c3:Ret Tryz.prog w0 63 [I x.n] (ints (upto x.n.toNat)):=by
  have:=kqy (w0:=w0) (n:=x.n)
  rwa [allL,if_pos (by omega)] at this
 have c4:t=6->Ret Tryz.prog w0 62 [ints (upto x.n.toNat),ints T.l] (ints L):=fun e6=>by
  have hU:=cqd (n:=x.n.toNat) (by omega)
  have:=dqg (w0:=w0) (a:=upto x.n.toNat) (b:=T.l) (by simp;omega) (by omega)
  rw [equ hU hTs] at this
  rw [<-hL,imgL,if_pos e6]
  exact this
 obtain ⟨U,hU⟩:∃ U,upto x.n.toNat=U:=⟨_,rfl⟩
 rw [hU] at c3 c4
 clear hU
 have c5:t=5->L=T.l:=fun e5=>by rw [<-hL,imgL,if_neg (by omega)];rfl
 rcases g with g5 | g6
 have f6:(t=6)=False:=eq_false (by omega)
 have f5:(t=5)=True:=eq_true g5
 obtain rfl:=c5 g5
 clear c3 c4 c5
 rcases lst with hne | ⟨y,k1,k2,k3,k4⟩
 rw [hne] at c2
 simp only [List.map_nil,List.length_nil] at c2
 refine aqf Tryz.func132 rfl Tryz.ntmps132 (ts:=[4,5]) rfl (by simp) (by kernel_rfl) ?_
 repeat'(with_reducible first|(refine sp (hK _ _ ?_);clear hK K)|refine vr [7] fun K hK=>?_|(refine vd [7] [] mixed fun K hK=>?_)|((first|refine aqa fun K' hK'=>?_|refine aqb fun K' B hK' hB=>?_|refine aqn fun K' hK'=>?_|(apply bq8;refine aqt rfl fun K' hK'=>?_));simp[f5,f6,rows,ints,hne];repeat'(first|((first|refine hK' ?_|refine hB ?_);clear hK' hB K' B)|(apply hK';clear hK' K')|refine Ret.use c1 ?_|refine Ret.use c2 ?_|intro hg|fail))|refine sp ?_|fail)
 rotate_left
 have k5:s.l.length-1<s.l.length:=by omega
 have k6:(0:Int)<=(s.l.length:Int)-1:=by omega
 refine aqf Tryz.func132 rfl Tryz.ntmps132 (ts:=[4,5]) rfl (by simp) (by kernel_rfl) ?_
 repeat'(with_reducible first|(refine sp (hK _ _ ?_);clear hK K)|refine vr [7] fun K hK=>?_|(refine vd [7] [] mixed fun K hK=>?_)|((first|refine aqa fun K' hK'=>?_|refine aqb fun K' B hK' hB=>?_|refine aqn fun K' hK'=>?_|(apply bq8;refine aqt rfl fun K' hK'=>?_));simp[f5,f6,rows,ints,hi,k1,k2,k3,k4,k5,k6];repeat'(first|((first|refine hK' ?_|refine hB ?_);clear hK' hB K' B)|(apply hK';clear hK' K')|refine Ret.use c1 ?_|refine Ret.use c2 ?_|refine And.intro ?_ ?_|intro hg|(clear hK' K';omega)))|refine sp ?_|fail)
 rotate_left
 have f6:(t=6)=True:=eq_true g6
 have f5:(t=5)=False:=eq_false (by omega)
 have c4':=c4 g6
 clear c4 c5
 simp only [ints] at c3 c4'
 rcases lst with hne | ⟨y,k1,k2,k3,k4⟩
 rw [hne] at c2
 simp only [List.map_nil,List.length_nil] at c2
 refine aqf Tryz.func132 rfl Tryz.ntmps132 (ts:=[4,5]) rfl (by simp) (by kernel_rfl) ?_
 repeat'(with_reducible first|(refine sp (hK _ _ ?_);clear hK K)|refine vr [7] fun K hK=>?_|(refine vd [7] [] mixed fun K hK=>?_)|((first|refine aqa fun K' hK'=>?_|refine aqb fun K' B hK' hB=>?_|refine aqn fun K' hK'=>?_|(apply bq8;refine aqt rfl fun K' hK'=>?_));simp[f5,f6,rows,ints,hne];repeat'(first|((first|refine hK' ?_|refine hB ?_);clear hK' hB K' B)|(apply hK';clear hK' K')|refine Ret.use c1 ?_|refine Ret.use c2 ?_|refine Ret.use c3 ?_|refine Ret.use c4' ?_|intro hg|fail))|refine sp ?_|fail)
 rotate_left
 have k5:s.l.length-1<s.l.length:=by omega
 have k6:(0:Int)<=(s.l.length:Int)-1:=by omega
 refine aqf Tryz.func132 rfl Tryz.ntmps132 (ts:=[4,5]) rfl (by simp) (by kernel_rfl) ?_
 repeat'(with_reducible first|(refine sp (hK _ _ ?_);clear hK K)|refine vr [7] fun K hK=>?_|(refine vd [7] [] mixed fun K hK=>?_)|((first|refine aqa fun K' hK'=>?_|refine aqb fun K' B hK' hB=>?_|refine aqn fun K' hK'=>?_|(apply bq8;refine aqt rfl fun K' hK'=>?_));simp[f5,f6,rows,ints,hi,k1,k2,k3,k4,k5,k6];repeat'(first|((first|refine hK' ?_|refine hB ?_);clear hK' hB K' B)|(apply hK';clear hK' K')|refine Ret.use c1 ?_|refine Ret.use c2 ?_|refine Ret.use c3 ?_|refine Ret.use c4' ?_|refine And.intro ?_ ?_|intro hg|(clear hK' K';omega)))|refine sp ?_|fail)
 all_goals
  rename_i bx hb r
  have hbr:r≠bx:=by rintro rfl;simp at hg
  have hr0:H r=none:=by rw [if_neg hbr] at hg;exact hg
  clear hg c1 c2
  obtain ⟨H1,hH1⟩:∃ H1,H1=upd H bx (some (.box [I t,I n,I a,I b,.sl [.sl (T.l.map I) T.l.length] 1,.sl [I x.tag,I x.n,I x.a,I x.b,.sl (x.list.map ints) x.list.length,.sl (mtCs x.inner) x.inner.length] 1])):=⟨_,rfl⟩
  have hsub:Sub H H1:=by rw [hH1];exact aqh hb
  have hr1:H1 r=none:=by rw [hH1,aqm _ _ _ hbr];exact hr0
  rw [<-hH1]
  clear hH1 hb hr0
  refine aqi (fun env h=>∃ (q:Nat) (o:List Int),q<=s.l.length/\o=(s.l.take q).map (fun y=>(imgL t [T.l] [x]).getD y.toNat 0)/\h=upd H1 r (some (.arr 1 3 (o.map I) o.length))/\env 61=I q/\env 60=I s.l.length/\env 7= .ref r 0 o.length o.length/\env 6=ints (imgL t [T.l] [x])/\env 59=ints s.l) (fun env _=>s.l.length-natA (env 61)) ?_ ?_
  ·exact ⟨0,[],by omega,by simp,by simp,by simp,by first | (simp;done) | (simp [hne];done),by simp,by simp [hL,ints],by first | (simp [ints];done) | (simp [ints,hne];done)⟩
  rintro env h ⟨q,o,hq,ho,rfl,h61,h60,h7,h6,h59⟩
  have hnat:natA (env 61)=q:=by simp [h61]
  rw [hnat];clear hnat
  have hol:o.length=q:=by rw [ho,List.length_map,List.length_take];omega
  rw [hL] at h6
  by_cases g1:q<s.l.length
  ·obtain ⟨y,hy⟩:∃ y,s.l[q]=y:=⟨_,rfl⟩
   have hym:=hin y (by rw [<-bqa,<-hy];exact List.getElem_mem _)
   have htk:s.l.take (q+1)=s.l.take q++[y]:=by rw [List.take_succ_eq_append_getElem g1,hy]
   have hgy:∀ h,s.l[q]'h=y:=fun _=>hy
   have hgo:s.l[q]? =some y:=by simp [g1,hy]
   have hyt:y.toNat<(imgL t [T.l] [x]).length:=by rw [hL];omega
   obtain ⟨z,hz⟩:∃ z,(imgL t [T.l] [x])[y.toNat]=z:=⟨_,rfl⟩
   have hzd:(imgL t [T.l] [x]).getD y.toNat 0=z:=by simp [hyt,hz]
   have hzo:(imgL t [T.l] [x])[y.toNat]? =some z:=by simp [hyt,hz]
   have hzg:∀ h,(imgL t [T.l] [x])[y.toNat]'h=z:=fun _=>hz
   have hnew:o++[z]=(s.l.take (q+1)).map (fun y=>(imgL t [T.l] [x]).getD y.toNat 0):=by rw [htk,List.map_append,<-ho,List.map_singleton,hzd]
   rw [hL] at hyt hzo hzg
   repeat'(with_reducible first|(refine sp (hK _ _ ?_);clear hK K)|refine vr [] fun K hK=>?_|((first|refine aqa fun K' hK'=>?_|refine aqb fun K' B hK' hB=>?_);simp[h61,h60,h7,h6,h59,ints,g1,hgy,hgo,hym.1,hyt,hzo,hzg];repeat'(first|((first|refine hK' ?_|refine hB ?_);clear hK' hB K' B)|(apply hK';clear hK' K')|refine And.intro ?_ ?_|(clear hK' K';omega)))|refine sp ?_|fail)
   refine ⟨⟨q+1,o++[z],by omega,hnew,?_,by simp,by simp [h60],?_,by simp [h6,hL,ints],by simp [h59,ints]⟩,by simp;omega⟩
   ·simp [aqx]
   ·simp
  ·rw [List.take_of_length_le (by omega)] at ho
   refine dqk 7 h7 hr1 fun env' he he2=> ?_
   rw [bqw] at he
   have g61:env' 61=I q:=by rw [he2 _ (by decide),h61]
   have g60:env' 60=I s.l.length:=by rw [he2 _ (by decide),h60]
   repeat'(with_reducible first|(refine sp (hK _ _ ?_);clear hK K)|refine vr [] fun K hK=>?_|((first|refine aqa fun K' hK'=>?_|refine aqb fun K' B hK' hB=>?_);simp[g61,g60,he,ints,g1];repeat'(first|((first|refine hK' ?_|refine hB ?_);clear hK' hB K' B)|(apply hK';clear hK' K')|fail))|apply aqc|refine sp ?_|fail)
   rw [hL] at ho
   exact ⟨by simp [ho],hsub⟩
def leftL (n:Nat) (f:Int->Int):List Int:=(upto n).map f
theorem ints_leftL (n:Nat) (f:Int->Int):ints (leftL n f)= .sl (labI n f) n:=by simp [ints,leftL,labI]
theorem cntM_take {n:Nat} {f:Int->Int} {k:Nat} (h:k<n):((upto n).take (k+1)).countP (fun j=>decide (f j≠ -1))=((upto n).take k).countP (fun j=>decide (f j≠ -1))+if f k= -1 then 0 else 1:=by
 have hl:k<(upto n).length:=by simpa using h
 rw [List.take_succ_eq_append_getElem hl,List.countP_append,cqm]
 simp [List.countP_cons,ite_not]
set_option maxHeartbeats 4000000 in
theorem max_use {H:Heap} {m:Nat} {adj:List (List Int)} (ha:aqz adj) (hl:∀ l∈adj,aqz l) (hG:GrM m adj) {K:AV->Heap->Prop}
  (k:∀ f g,MInv m adj adj.length f g->K (.tup [ints (leftL adj.length f),I (cntM adj.length f)]) H):aqo Tryz.prog w0 176 [I m,rows adj] H K:=by
 have hmay:mayM m adj=true:=jqr.2 ⟨m,rfl,hG⟩
 refine (?_:aqo Tryz.prog w0 176 [I m,rows adj] H (fun v H'=>∃ f g,MInv m adj adj.length f g/\v= .tup [ints (leftL adj.length f),I (cntM adj.length f)]/\Sub H H')).drop ?_
 rotate_left
 ·rintro v H' ⟨f,g,hi,rfl,s⟩
  exact ⟨_,s,k f g hi⟩
 clear k K
 have hn:=hG.nle
 have hm:=hG.mle
 refine aqf Tryz.func176 rfl Tryz.ntmps176 (ts:=[4,5]) rfl (by simp) (by kernel_rfl) ?_
 repeat'(first|(with_reducible (refine aqd (hK _ _ ?_);clear hK K))|(with_reducible refine vr [] fun K hK=>?_)|((with_reducible first|refine aqa fun K' hK'=>?_|refine aqb fun K' B hK' hB=>?_);simp[rows,hmay,mf_F,mf_L];repeat'(first|(with_reducible first|((first|refine hK' ?_|refine hB ?_);clear hK' hB K' B)|(apply hK';clear hK' K')|refine Ret.use (jqa ha hl) ?_)|((with_reducible refine greatest_use hG (fun F L R f g z d hi=> ?_));try simp[rows,hmay,mf_F,mf_L])|fail))|(with_reducible refine sp ?_)|fail)
 refine aqi (fun env h=>∃ (q c:Nat),q<=adj.length/\c=((upto adj.length).take q).countP (fun j=>decide (f j≠ -1))/\env 22=I q/\env 21=I adj.length/\env 20= .ref L 0 adj.length adj.length/\env 6= .ptr F 0 0/\env 7=I c/\h=mf H F L R adj m f g z) (fun env _=>adj.length-natA (env 22)) ?_ ?_
 ·exact ⟨0,0,by omega,by simp,by simp,by simp,by simp,by simp,by simp,rfl⟩
 rintro env h ⟨q,c,hq,hc0,h22,h21,h20,h6,h7,rfl⟩
 have hnat:natA (env 22)=q:=by simp [h22]
 rw [hnat];clear hnat
 have hcl:c<=64:=by
  rw [hc0]
  refine Nat.le_trans List.countP_le_length ?_
  rw [List.length_take];omega
 by_cases hlt:q<adj.length
 ·have hct:=cntM_take (f:=f) hlt
  have hL:∀ h,(labI adj.length f)[q]'h=I (f q):=fun h=>fqz (x:=(q:Int)) (by omega) (by simpa using h)
  have hqL:q<(labI adj.length f).length:=by rw [aq5];exact hlt
  by_cases hfq:f q= -1
  ·rw [if_pos hfq] at hct
   repeat'(with_reducible first|(refine aqd (hK _ _ ?_);clear hK K)|refine vr [] fun K hK=>?_|((first|refine aqa fun K' hK'=>?_|refine aqb fun K' B hK' hB=>?_);simp[h22,h21,h20,h6,h7,hlt,mf_F,mf_L d,hL,hqL,aq5,hfq];repeat'(first|((first|refine hK' ?_|refine hB ?_);clear hK' hB K' B)|(apply hK';clear hK' K')|refine And.intro ?_ ?_|(clear hK' K';omega)))|refine sp ?_|fail)
   all_goals try omega
   exact ⟨⟨q+1,c,by omega,by rw [hct,hc0];rfl,by simp,by simp [h21],by simp [h20],by simp [h6],by simp [h7],rfl⟩,by simp;omega⟩
  ·rw [if_neg hfq] at hct
   repeat'(with_reducible first|(refine aqd (hK _ _ ?_);clear hK K)|refine vr [] fun K hK=>?_|((first|refine aqa fun K' hK'=>?_|refine aqb fun K' B hK' hB=>?_);simp[h22,h21,h20,h6,h7,hlt,mf_F,mf_L d,hL,hqL,aq5,hfq];repeat'(first|((first|refine hK' ?_|refine hB ?_);clear hK' hB K' B)|(apply hK';clear hK' K')|refine And.intro ?_ ?_|(clear hK' K';omega)))|refine sp ?_|fail)
   all_goals try omega
   exact ⟨⟨q+1,c+1,by omega,by rw [hct,hc0],by simp,by simp [h21],by simp [h20],by simp [h6],by simp,rfl⟩,by simp;omega⟩
 ·have:q=adj.length:=by omega
  subst this
  have htk:(upto adj.length).take adj.length=upto adj.length:=List.take_of_length_le (by simp)
  rw [htk] at hc0
  have hcn:c=cntM adj.length f:=hc0
  repeat'(with_reducible first|(refine aqd (hK _ _ ?_);clear hK K)|refine vr [] fun K hK=>?_|((first|refine aqa fun K' hK'=>?_|refine aqb fun K' B hK' hB=>?_);simp[h22,h21,h20,h6,h7,mf_F];repeat'(first|((first|refine hK' ?_|refine hB ?_);clear hK' hB K' B)|(apply hK';clear hK' K')|fail))|refine sp ?_|fail)
  refine eqx 4 (r:=L) (off:=0) (len:=adj.length) (top:=adj.length) (by simp) (mf_L d) ?_
  repeat'(with_reducible first|apply aqc|refine sp ?_|fail)
  exact ⟨f,g,hi,by simp [ints_leftL,hcn,aq5],(mf_sub d).upd d.hL none⟩
def aq6 (l:List (List Int)) (s:FS):List (List Int):=s.l.map fun x=>l.getD x.toNat []
theorem iqx {l:List (List Int)} {s:FS} (hs:∀ x,x∈s->0<=x/\x<l.length) (hl:s.l.length<=64):Ret Tryz.prog w0 173 [rows l,ints s.l] (rows (aq6 l s)):=by
 intro H
 refine aqf Tryz.func173 rfl Tryz.ntmps173 (ts:=[4]) rfl (by simp) (by kernel_rfl) ?_ |>cq4
 repeat'(with_reducible first|(refine aqd (hK _ _ ?_);clear hK K)|refine vr [] fun K hK=>?_|(refine aqa fun K' hK'=>?_;simp[rows,ints];repeat'(first|(apply hK';clear hK' K')|refine And.intro ?_ ?_|intro hg|(clear hK' K';omega)))|refine sp ?_|fail)
 rename_i r
 have hr:H r=none:=hg
 clear hg
 refine aqi (fun env h=>∃ q:Nat,q<=s.l.length/\h=upd H r (some (.arr 1 26 ((((s.l.take q).map fun x=>l.getD x.toNat []).map ints)++List.replicate (s.l.length-q) (.sc (.slice none 0 0))) s.l.length))/\env 13=I q/\env 12=I s.l.length/\env 11=ints s.l/\env 5= .ref r 0 s.l.length s.l.length/\env 0=rows l) (fun env _=>s.l.length-natA (env 13)) ?_ ?_
 ·exact ⟨0,by omega,by simp,by simp,by simp,by simp [ints],by simp,by simp [rows]⟩
 rintro env h ⟨q,hq,rfl,h13,h12,h11,h5,h0⟩
 have hnat:natA (env 13)=q:=by simp [h13]
 rw [hnat];clear hnat
 by_cases g1:q<s.l.length
 ·obtain ⟨y,hy⟩:∃ y,s.l[q]=y:=⟨_,rfl⟩
  have hym:=hs y (by rw [<-bqa,<-hy];exact List.getElem_mem _)
  have htk:s.l.take (q+1)=s.l.take q++[y]:=by rw [List.take_succ_eq_append_getElem g1,hy]
  have hgy:∀ h,s.l[q]'h=y:=fun _=>hy
  have hgo:s.l[q]? =some y:=by simp [g1,hy]
  have hyt:y.toNat<l.length:=by omega
  obtain ⟨c,hc⟩:∃ c,l[y.toNat]=c:=⟨_,rfl⟩
  have q1:∀ h,l[y.toNat]'h=c:=fun _=>hc
  have q1o:l[y.toNat]? =some c:=by rw [List.getElem?_eq_getElem hyt,hc]
  have hcd:l.getD y.toNat []=c:=by simp [q1o]
  obtain ⟨A,hA⟩:∃ A,((s.l.take q).map fun x=>l.getD x.toNat []).map ints=A:=⟨_,rfl⟩
  have hAl:A.length=q:=by rw [<-hA,List.length_map,List.length_map,List.length_take];omega
  have hnew:((s.l.take (q+1)).map fun x=>l.getD x.toNat []).map ints=A++[ints c]:=by rw [htk,List.map_append,List.map_append,hA];simp [q1o]
  have hrep:s.l.length-q=(s.l.length-(q+1))+1:=by omega
  have hset:(A++List.replicate (s.l.length-q) (AV.sc (.slice none 0 0))).set q (ints c)=(A++[ints c])++List.replicate (s.l.length-(q+1)) (AV.sc (.slice none 0 0)):=by
   have:=hqo A (s.l.length-(q+1)) (AV.sc (.slice none 0 0)) (ints c)
   rw [hAl] at this
   rw [hrep];exact this
  rw [hA]
  obtain ⟨C,hC⟩:∃ C,A++List.replicate (s.l.length-q) (AV.sc (.slice none 0 0))=C:=⟨_,rfl⟩
  have hCl:C.length=s.l.length:=by rw [<-hC,List.length_append,hAl,List.length_replicate];omega
  rw [hC] at hset ⊢
  repeat'(with_reducible first|(refine aqd (hK _ _ ?_);clear hK K)|refine vr [] fun K hK=>?_|((first|refine aqa fun K' hK'=>?_|refine aqb fun K' B hK' hB=>?_);simp[h13,h12,h11,h5,h0,ints,rows,g1,hgy,hgo,hym.1,hyt,q1,q1o,hCl];repeat'(first|((first|refine hK' ?_|refine hB ?_);clear hK' hB K' B)|(apply hK';clear hK' K')|refine And.intro ?_ ?_|(clear hK' K';omega)))|refine sp ?_|fail)
  exact ⟨⟨q+1,by omega,by rw [hnew,<-hset],by simp,by simp [h12],by simp [h11,ints],by simp [h5],by simp [h0,rows]⟩,by simp;omega⟩
 ·obtain rfl:q=s.l.length:=by omega
  repeat'(with_reducible first|(refine aqd (hK _ _ ?_);clear hK K)|refine vr [] fun K hK=>?_|((first|refine aqa fun K' hK'=>?_|refine aqb fun K' B hK' hB=>?_);simp[h13,h12,h11,h5,h0,g1];repeat'(first|((first|refine hK' ?_|refine hB ?_);clear hK' hB K' B)|(apply hK';clear hK' K')|fail))|apply aqc|refine sp ?_|fail)
  refine frz hr (by simp) rfl ?_
  have e:=bqw ints (aq6 l s)
  have hle:(aq6 l s).length=s.l.length:=by simp [aq6]
  rw [hle] at e
  rw [show rows (aq6 l s)= .sl ((aq6 l s).map ints) s.l.length from by rw [rows,hle],<-e]
  simp [aq6]
theorem paR_insert {cls ks:List Int} {y d:Int} {S:FS} (hy:y∉S) (hd:0<=y/\cls[y.toNat]? =some d):∀ {c:Int},c<=d->(h:(d-c).toNat<ks.length)->
  paR cls ks c (insert y S)=paR cls ks c S+if (aq2 cls d S).card<(ks[(d-c).toNat]'h).toNat then 1 else 0:=by
 induction ks with
 | nil=>intro c _ h;simp at h
 | cons k ks ih=>
  intro c hc h
  rw [paR,paR]
  by_cases e:d=c
  ·subst e
   have h0:(d-d).toNat=0:=by omega
   rw [iqt hd,paR_out ks (c:=d+1) (x:=y) (fun d' hd' k'=>by
    have:=hd.2.symm.trans k'.2
    injection this;omega)]
   rw [FS.card_insert (fun k'=>by
    rw [aq2,FS.mem_filter] at k';exact hy k'.1)]
   simp only [h0,List.getElem_cons_zero]
   split<;>omega
  ·have h1:(d-c).toNat=(d-(c+1)).toNat+1:=by omega
   rw [dq3 (fun k'=>by
    have:=hd.2.symm.trans k'.2
    injection this with this;exact e this)]
   have h2:(d-(c+1)).toNat<ks.length:=by simp at h;omega
   rw [ih (by omega) h2]
   simp only [h1,List.getElem_cons_succ]
   omega
set_option maxRecDepth 20000 in
set_option maxHeartbeats 2000000 in
theorem classes_ret {t n a b:Int} {cls caps:List Int} {s:FS} (hs:∀ x,x∈s->∃ d,0<=x/\(∀ h,cls[x.toNat]'h=d)/\x.toNat<cls.length/\0<=d/\d<caps.length) (hl:s.l.length<=64) (hk:∀ k∈caps,0<=k/\k<=64) (hcl:caps.length<=64):
  Ret Tryz.prog w0 175 [.agg [I t,I n,I a,I b,rows [cls,caps],.sl [] 0],ints s.l] (I (paR cls caps 0 s)):=by
 intro H
 refine aqf Tryz.func175 rfl Tryz.ntmps175 (ts:=[4]) rfl (by simp) (by kernel_rfl) ?_
 repeat'(with_reducible first|(refine aqd (hK _ _ ?_);clear hK K)|refine vr [14] fun K hK=>?_|(refine aqa fun K' hK'=>?_;simp[rows,ints];repeat'(first|(apply hK';clear hK' K')|refine And.intro ?_ ?_|intro hg|(clear hK' K';omega)))|refine sp ?_|fail)
 rename_i bx hb r
 have hbr:r≠bx:=by rintro rfl;simp at hg
 have hr0:H r=none:=by rw [if_neg hbr] at hg;exact hg
 have hbr':bx≠r:=Ne.symm hbr
 clear hg
 obtain ⟨H1,hH1⟩:∃ H1,H1=upd H bx (some (.box [I t,I n,I a,I b,.sl [.sl (cls.map I) cls.length,.sl (caps.map I) caps.length] 2,.sl [] 0])):=⟨_,rfl⟩
 have hsub:Sub H H1:=by rw [hH1];exact aqh hb
 have lb:H1 bx=some (.box [I t,I n,I a,I b,.sl [.sl (cls.map I) cls.length,.sl (caps.map I) caps.length] 2,.sl [] 0]):=by rw [hH1,aqj]
 have hr1:H1 r=none:=by rw [hH1,aqm _ _ _ hbr];exact hr0
 rw [<-hH1]
 clear hH1 hb hr0
 refine aqi (fun env h=>∃ (q:Nat) (S:FS) (left:List Int),q<=s.l.length/\S=FS.ofList (s.l.take q)/\left.length=caps.length/\(∀ d (h1:d<left.length) (h2:d<caps.length),left[d]=max (caps[d]-(aq2 cls d S).card) 0)/\
  h=upd H1 r (some (.arr 1 3 (left.map I) caps.length))/\env 17=I q/\env 16=I s.l.length/\env 15=ints s.l/\env 6=I (paR cls caps 0 S)/\env 5= .ref r 0 caps.length caps.length/\env 2= .ptr bx 0 0) (fun env _=>s.l.length-natA (env 17)) ?_ ?_
 ·have p0:paR cls caps 0 (FS.ofList [])=0:=(pa_rk cls caps 0).r0
  refine ⟨0,FS.ofList [],caps,by omega,by simp,rfl,fun d h1 h2=> ?_,by simp,by simp,by simp,by simp [ints],by simp [p0],by simp,by simp⟩
  have:(aq2 cls d (FS.ofList [])).card=0:=rfl
  rw [this]
  have:=hk _ (List.getElem_mem h2)
  omega
 rintro env h ⟨q,S,left,hq,hS,hll,hle,rfl,h17,h16,h15,h6,h5,h2⟩
 have hnat:natA (env 17)=q:=by simp [h17]
 rw [hnat];clear hnat
 have hbnd:paR cls caps 0 S<=64:=by
  have h1:=(pa_rk cls caps 0).le_card S
  have h2:S.card<=s.card:=FS.card_le fun x hx=>by
   rw [hS,FS.mem_ofList] at hx
   exact bqa.1 (List.mem_of_mem_take hx)
  have h3:s.card=s.l.length:=rfl
  omega
 by_cases g1:q<s.l.length
 ·obtain ⟨y,hy⟩:∃ y,s.l[q]=y:=⟨_,rfl⟩
  obtain ⟨d,y0,hyd,hyl,d0,d1⟩:=hs y (by rw [<-bqa,<-hy];exact List.getElem_mem _)
  obtain ⟨D,rfl⟩:=Int.eq_ofNat_of_zero_le d0
  have hD:D<caps.length:=by omega
  have hDl:D<left.length:=by omega
  have htk:s.l.take (q+1)=s.l.take q++[y]:=by rw [List.take_succ_eq_append_getElem g1,hy]
  have hgy:∀ h,s.l[q]'h=y:=fun _=>hy
  have hgo:s.l[q]? =some y:=by simp [g1,hy]
  have hydo:cls[y.toNat]? =some (D:Int):=by rw [List.getElem?_eq_getElem hyl,hyd]
  have hyS:y∉S:=fun hx=>by
   rw [hS,FS.mem_ofList] at hx
   obtain ⟨i,hi,e⟩:=List.mem_iff_getElem.1 hx
   rw [List.length_take] at hi
   rw [List.getElem_take] at e
   have:=List.pairwise_iff_getElem.1 s.up i q (by omega) g1 (by omega)
   omega
  have hS2:(insert y S:FS)=FS.ofList (s.l.take (q+1)):=FS.ext fun z=>by
   rw [htk,FS.mem_insert,FS.mem_ofList,hS,FS.mem_ofList,List.mem_append,List.mem_singleton];exact Or.comm
  have hpi:=paR_insert (ks:=caps) hyS ⟨y0,hydo⟩ (c:=0) (by omega) (by omega)
  have hcD:(aq2 cls D (insert y S)).card=(aq2 cls D S).card+1:=by
   rw [iqt ⟨y0,hydo⟩,FS.card_insert fun k'=>by rw [aq2,FS.mem_filter] at k';exact hyS k'.1]
  have hcO:∀ d:Nat,d≠D->(aq2 cls d (insert y S)).card=(aq2 cls d S).card:=fun d hd=>by
   rw [dq3 fun k'=>by
    have:=hydo.symm.trans k'.2
    injection this;omega]
  have hlD:=hle D hDl hD
  have hkD:=hk _ (List.getElem_mem hD)
  have e1:((D:Int)-0).toNat=D:=by omega
  simp only [e1] at hpi
  obtain ⟨v,hv⟩:∃ v,left[D]=v:=⟨_,rfl⟩
  have hgv:∀ h,left[D]'h=v:=fun _=>hv
  have hgvo:left[D]? =some v:=by simp [hDl,hv]
  rw [hv] at hlD
  generalize hw:caps[D]=w at *
  by_cases g2:0<v
  ·rw [if_pos (by omega)] at hpi
   repeat'(with_reducible first|(refine aqd (hK _ _ ?_);clear hK K)|refine vr [] fun K hK=>?_|((first|refine aqa fun K' hK'=>?_|refine aqb fun K' B hK' hB=>?_);simp[h17,h16,h15,h6,h5,h2,ints,g1,hgy,hgo,lb,hbr',y0,hyd,hydo,hyl,hll,hD,hDl,hgv,hgvo,g2];repeat'(first|((first|refine hK' ?_|refine hB ?_);clear hK' hB K' B)|(apply hK';clear hK' K')|refine And.intro ?_ ?_|(clear hK' K';omega)))|refine sp ?_|fail)
   refine ⟨⟨q+1,insert y S,left.set D (v-1),by omega,hS2,by simp [hll],fun d h1 h2=> ?_,by rw [List.map_set],by simp,by simp [h16],by simp [h15,ints],by rw [hpi];simp,by simp [h5],by simp [h2]⟩,by simp;omega⟩
   rw [List.getElem_set]
   by_cases ed:d=D
   ·subst ed;rw [if_pos rfl,hcD,hw];omega
   ·rw [if_neg (Ne.symm ed),hcO d ed];exact hle d (by simpa using h1) h2
  ·rw [if_neg (by omega)] at hpi
   repeat'(with_reducible first|(refine aqd (hK _ _ ?_);clear hK K)|refine vr [] fun K hK=>?_|((first|refine aqa fun K' hK'=>?_|refine aqb fun K' B hK' hB=>?_);simp[h17,h16,h15,h6,h5,h2,ints,g1,hgy,hgo,lb,hbr',y0,hyd,hydo,hyl,hll,hD,hDl,hgv,hgvo,g2];repeat'(first|((first|refine hK' ?_|refine hB ?_);clear hK' hB K' B)|(apply hK';clear hK' K')|refine And.intro ?_ ?_|(clear hK' K';omega)))|refine sp ?_|fail)
   refine ⟨⟨q+1,insert y S,left,by omega,hS2,hll,fun d h1 h2=> ?_,rfl,by simp,by simp [h16],by simp [h15,ints],by rw [hpi];simp [h6],by simp [h5],by simp [h2]⟩,by simp;omega⟩
   by_cases ed:d=D
   ·subst ed;rw [hcD,hv,hw];omega
   ·rw [hcO d ed];exact hle d h1 h2
 ·obtain rfl:q=s.l.length:=by omega
  rw [List.take_of_length_le (Nat.le_refl _),cqn] at hS
  subst hS
  repeat'(with_reducible first|(refine aqd (hK _ _ ?_);clear hK K)|refine vr [] fun K hK=>?_|((first|refine aqa fun K' hK'=>?_|refine aqb fun K' B hK' hB=>?_);simp[h17,h16,h15,h6,h5,h2,g1];repeat'(first|((first|refine hK' ?_|refine hB ?_);clear hK' hB K' B)|(apply hK';clear hK' K')|fail))|apply aqc|refine sp ?_|fail)
  exact ⟨by simp,(hsub.trans (aqh hr1))⟩
end Go.Am
namespace Go.Am
set_option linter.unusedVariables false
set_option linter.unusedSimpArgs false
theorem MInv.nu {m:Nat} {adj:List (List Int)} {f g:Int->Int} (hG:GrM m adj) (h:MInv m adj adj.length f g):IsNu m adj (cntM adj.length f):=by
 obtain ⟨hf,_,Z,hZ,hw⟩:=h
 refine ⟨⟨f,hf.mtc,rfl⟩,?_⟩
 have dZ:∀ k,Decidable (Z k):=fun k=>Classical.propDecidable _
 have dR:∀ j:Int,Decidable (∃ k:Int,0<=k/\k<m/\Z k/\g k=j):=fun k=>Classical.propDecidable _
 have hr:Rch m adj f g (fun j=>decide (f j= -1)||decide (∃ k:Int,0<=k/\k<m/\Z k/\g k=j)) (fun k=>decide (Z k)):=by
  refine ⟨fun j a b c=>⟨by simp [c],fun y hy=>by simpa using hw j a b c y hy⟩,fun j a b c=> ?_,fun k a b c=> ?_⟩
  ·rw [Bool.or_eq_true,decide_eq_true_eq,decide_eq_true_eq] at c
   rcases c with c | ⟨k,a1,a2,a3,a4⟩
   ·exact .inl c
   ·exact .inr ⟨k,a1,a2,by simpa using a3,a4⟩
  ·have hz:Z k:=by simpa using c
   refine ⟨(hZ k hz).1,?_,fun y hy=>by simpa using (hZ k hz).2 y hy⟩
   rw [Bool.or_eq_true,decide_eq_true_eq,decide_eq_true_eq]
   exact .inr ⟨k,a,b,hz,rfl⟩
 obtain ⟨h1,h2⟩:=hr.cover hG hf
 exact ⟨_,_,h1,h2⟩
end Go.Am
namespace Go.Am
open Go Go.Proofs
set_option linter.unusedVariables false
set_option linter.unusedSimpArgs false
variable {w0:World}
attribute [local irreducible] AWP aqo
attribute [local congr] aqp
theorem nb_chosen {l:List (List Int)} {s:FS} {i:Int} (h0:0<=i) (h:i.toNat<s.l.length):nbM (aq6 l s) i=l.getD (s.l[i.toNat]).toNat []:=by
 simp [nbM,aq6,h]
theorem nu_tr {m v:Nat} {l:List (List Int)} {s:FS} (h0:∀ x,x∈s->0<=x) (hm:m<=1000) (hsl:s.l.length<=1000) (hb:∀ x:Int,∀ y∈l.getD x.toNat [],0<=y/\y<m) (h:IsNu m (aq6 l s) v):trR l s=v:=by
 have hlen:(aq6 l s).length=s.l.length:=by simp [aq6]
 obtain ⟨⟨f,hf,hfv⟩,lc,rc,hc,hcv⟩:=h
 apply Nat.le_antisymm
 ·-- a cover of positions is one of elements
  have hL:(FS.ofList (lc.map fun i=>s.l.getD i.toNat 0)).card<=lc.length:=by
   have:=bq3 (FS.ofList (lc.map fun i=>s.l.getD i.toNat 0)).l (lc.map fun i=>s.l.getD i.toNat 0) (FS.nodup _) fun x hx=>FS.mem_ofList.1 hx
   rw [List.length_map] at this
   exact this
  have hR:(FS.ofList rc).card<=rc.length:=bq3 _ _ (FS.nodup _) fun x hx=>FS.mem_ofList.1 hx
  have:=hqg (adj:=l) (s:=s) (L:=FS.ofList (lc.map fun i=>s.l.getD i.toNat 0)) (R:=FS.ofList rc) fun x hx hxl y hy _=>by
   obtain ⟨i,hi,e⟩:=List.mem_iff_getElem.1 (bqa.2 hx)
   have e1:((i:Int)).toNat=i:=by omega
   have hnl:(i:Int)∉lc:=fun k=>hxl (by
    rw [FS.mem_ofList,List.mem_map]
    exact ⟨i,k,by rw [e1,List.getD_eq_getElem?_getD,List.getElem?_eq_getElem hi,e];rfl⟩)
   rw [FS.mem_ofList]
   refine hc.cover i (by omega) (by rw [hlen];omega) hnl y ?_
   rw [nb_chosen (by omega) (by rw [e1];exact hi)]
   simp only [e1,e]
   exact hy
  omega
 ·obtain ⟨L,R,hcv2,e⟩:=lqf (adj:=l) s
  have hi1:aq3 ((upto s.l.length).filter fun i=>decide (s.l.getD i.toNat 0∈L)):=by
   refine ⟨(dqh _).filter _,fun x hx=> ?_⟩
   have:=aqq.1 (List.mem_filter.1 hx).1
   omega
  have hc2:Cv m (aq6 l s) ((upto s.l.length).filter fun i=>decide (s.l.getD i.toNat 0∈L)) (R∩FS.upTo m).l:=by
   refine ⟨hi1,cqg (n:=m) (fun x hx=>(FS.mem_inter.1 hx).2) (by omega),fun x hx=>by rw [hlen];exact (aqq.1 (List.mem_filter.1 hx).1).2,fun x hx=>(FS.mem_upTo.1 (FS.mem_inter.1 (bqa.1 hx)).2).2,fun i i0 i1 hil y hy=> ?_⟩
   rw [hlen] at i1
   have hi:i.toNat<s.l.length:=by omega
   rw [nb_chosen i0 hi] at hy
   have hxs:s.l[i.toNat]∈s:=bqa.1 (List.getElem_mem hi)
   have hxL:s.l[i.toNat]∉L:=fun k=>hil (by
    rw [List.mem_filter,aqq]
    exact ⟨⟨i0,i1⟩,by rw [List.getD_eq_getElem?_getD,List.getElem?_eq_getElem hi];simpa using k⟩)
   have:=hcv2 _ hxs hxL y hy (h0 _ hxs)
   rw [bqa,FS.mem_inter,FS.mem_upTo]
   exact ⟨this,hb _ y hy⟩
  have hle:=hf.le hc2
  have h1:((upto s.l.length).filter fun i=>decide (s.l.getD i.toNat 0∈L)).length<=L.card:=by
   have h3:(((upto s.l.length).filter fun i=>decide (s.l.getD i.toNat 0∈L)).map fun i=>s.l.getD i.toNat 0).Nodup:=by
    refine eqt ((eqs _).filter _) fun x hx y hy e=> ?_
    have hx1:=aqq.1 (List.mem_filter.1 hx).1
    have hy1:=aqq.1 (List.mem_filter.1 hy).1
    have hx2:x.toNat<s.l.length:=by omega
    have hy2:y.toNat<s.l.length:=by omega
    rw [List.getD_eq_getElem?_getD,List.getD_eq_getElem?_getD,List.getElem?_eq_getElem hx2,List.getElem?_eq_getElem hy2] at e
    have:=hq4 s.nodup hx2 hy2 e
    omega
   have:=bq3 _ L.l h3 fun z hz=>by
    obtain ⟨i,hi,rfl⟩:=List.mem_map.1 hz
    have:=(List.mem_filter.1 hi).2
    exact bqa.2 (by simpa using this)
   rw [List.length_map] at this
   exact this
  have h2:(R∩FS.upTo m).l.length<=R.card:=FS.card_le fun x hx=>(FS.mem_inter.1 hx).1
  omega
set_option maxRecDepth 20000 in
set_option maxHeartbeats 4000000 in
theorem plain_rank {t n a b:Int} {l:List (List Int)} {xs:List Mtd} (h:OkT (.mk t n a b l xs)) (g:¬(5<=t/\t<=9)) (s:FS) (hs:s⊆FS.upTo n.toNat):
  Ret Tryz.prog w0 134 [mtA (.mk t n a b l xs),ints s.l] (I (rkM (.mk t n a b l xs) s)):=by
 have hrk:=rkM_plain (a:=a) (b:=b) (l:=l) (xs:=xs) hs g
 have hp:=h.plain g
 have hn:=h.n0
 have hsl:=bqt hs
 have hsb:∀ x,x∈s->0<=x/\x<n:=fun x hx=>by have:=FS.mem_upTo.1 (hs x hx);omega
 have hb100:b<=100:=by obtain ⟨_,_,_,hb,_⟩:=h.nice;exact hb
 rw [hrk]
 clear hrk
 unfold bqz at hp
 simp only [Bool.and_eq_true,decide_eq_true_eq] at hp
 obtain ⟨⟨hx0,hb0⟩,hp⟩:=hp
 have hx0:xs=[]:=List.length_eq_zero_iff.1 hx0
 subst hx0
 have hsl':s.l.length<=64:=by omega
 intro H
 simp only [mtA,mtC,mtCs,List.length_nil]
 by_cases e1:t=1
 ·subst e1
  rw [if_neg (by omega),if_pos rfl] at hp
  rw [if_pos rfl]
  simp only [Bool.and_eq_true,decide_eq_true_eq,List.all_eq_true,numB] at hp
  obtain ⟨⟨hrow,ha1⟩,hln⟩:=hp
  have c1:=iqx (w0:=w0) (l:=l) (s:=s) (fun x hx=>by have:=hsb x hx;omega) hsl'
  have hedge:∀ y,y∈s->∃ u w,l.getD y.toNat []=[u,w]/\edgF l y=[(u,w)]/\0<=u/\u<a/\0<=w/\w<a:=fun y hy=>by
   have hyb:=hsb y hy
   have hyl:y.toNat<l.length:=by omega
   obtain ⟨k1,k2⟩:=hrow _ (List.getElem_mem hyl)
   obtain ⟨r,hr⟩:∃ r,l[y.toNat]=r:=⟨_,rfl⟩
   rw [hr] at k1 k2
   match r,k2 with
   | [u,w],_=>
    have b1:=k1 u (by simp)
    have b2:=k1 w (by simp)
    refine ⟨u,w,by rw [List.getD_eq_getElem?_getD,List.getElem?_eq_getElem hyl,hr];rfl,?_,by omega,by omega,by omega,by omega⟩
    rw [edgF,if_pos hyb.1,List.getElem?_eq_getElem hyl,hr]
    rfl
  have hel:∀ q,((s.l.take q).flatMap (edgF l)).length=(s.l.take q).length:=fun q=>by
   have:∀ ys:List Int,(∀ y∈ys,y∈s)->(ys.flatMap (edgF l)).length=ys.length:=by
    intro ys
    induction ys with
    | nil=>intro _;rfl
    | cons y ys ih=>
     intro hy
     obtain ⟨u,w,_,e,_⟩:=hedge y (hy y (by simp))
     rw [List.flatMap_cons,List.length_append,e,ih fun z hz=>hy z (by simp [hz])]
     simp;omega
   exact this _ fun y hy=>bqa.1 (List.mem_of_mem_take hy)
  have hle:(aq6 l s).length=s.l.length:=by simp [aq6]
  refine aqf Tryz.func134 rfl Tryz.ntmps134 (ts:=[4]) rfl (by simp) (by kernel_rfl) ?_
  repeat'(with_reducible first|(refine sp (hK _ _ ?_);clear hK K)|((fail_if_success(refine aql 4 ?_));(fail_if_success(refine(?_:AWP _ _ _ (Code.region 4 _ _) _ _ _)));refine vr [5] fun K hK=>?_)|((first|refine aqa fun K' hK'=>?_|refine aqb fun K' B hK' hB=>?_);simp;repeat'(first|((first|refine hK' ?_|refine hB ?_);clear hK' hB K' B)|(apply hK';clear hK' K')|intro hg|fail))|((fail_if_success(refine aql 4 ?_));refine sp ?_)|fail)
  rename_i bx hb r
  have hbr:r≠bx:=by rintro rfl;simp at hg
  have hr0:H r=none:=by rw [if_neg hbr] at hg;exact hg
  have hbr':bx≠r:=Ne.symm hbr
  clear hg
  obtain ⟨H1,hH1⟩:∃ H1,H1=upd H bx (some (.box [I 1,I n,I a,I b,rows l,.sl [] 0])):=⟨_,rfl⟩
  have hsub:Sub H H1:=by rw [hH1];exact aqh hb
  have lb:H1 bx=some (.box [I 1,I n,I a,I b,rows l,.sl [] 0]):=by rw [hH1,aqj]
  have m1:H1 r=none:=by rw [hH1,aqm _ _ _ hbr];exact hr0
  rw [<-hH1]
  clear hH1 hb hr0
  repeat'(with_reducible first|(refine sp (hK _ _ ?_);clear hK K)|refine vr [] fun K hK=>?_|(refine aqa fun K' hK'=>?_;simp[lb,hbr'];repeat'(first|(apply hK';clear hK' K')|refine Ret.use c1 ?_|fail))|refine sp ?_|fail)
  obtain ⟨C,hC⟩:∃ C,aq6 l s=C:=⟨_,rfl⟩
  rw [hC] at hle
  refine aqi (fun env h=>∃ (q:Nat) (es:List (Int×Int)),q<=s.l.length/\es=(s.l.take q).flatMap (edgF l)/\h=upd H1 r (some (.arr 2 55 (es.flatMap fun e=>[I e.1,I e.2]) es.length))/\env 19=I q/\env 18=I s.l.length/\env 17=rows C/\env 5= .ref r 0 es.length es.length/\env 2= .ptr bx 0 0) (fun env _=>s.l.length-natA (env 19)) ?_ ?_
  ·exact ⟨0,[],by omega,by simp,by simp,by simp,by simp [hle,hC],by simp [hC],by simp,by simp⟩
  rintro env h' ⟨q,es,hq,hes,rfl,h19,h18,h17,h5,h2⟩
  have hnat:natA (env 19)=q:=by simp [h19]
  rw [hnat];clear hnat
  have hesl:es.length=q:=by rw [hes,hel,List.length_take];omega
  by_cases g1:q<s.l.length
  ·obtain ⟨y,hy⟩:∃ y,s.l[q]=y:=⟨_,rfl⟩
   have hyS:y∈s:=by rw [<-bqa,<-hy];exact List.getElem_mem _
   have htk:s.l.take (q+1)=s.l.take q++[y]:=by rw [List.take_succ_eq_append_getElem g1,hy]
   obtain ⟨u,w,q1,q2,_⟩:=hedge y hyS
   have gC:q<C.length:=by omega
   have q3:∀ h,C[q]'h=[u,w]:=fun h=>by
    subst hC
    simp only [aq6,List.getElem_map,hy,q1]
   have q3o:C[q]? =some [u,w]:=by rw [List.getElem?_eq_getElem gC,q3]
   have hnew:es++[(u,w)]=(s.l.take (q+1)).flatMap (edgF l):=by rw [htk,List.flatMap_append,<-hes];simp [q2]
   repeat'(with_reducible first|(refine sp (hK _ _ ?_);clear hK K)|refine vr [] fun K hK=>?_|((first|refine aqa fun K' hK'=>?_|refine aqb fun K' B hK' hB=>?_);simp[h19,h18,h17,h5,h2,ints,rows,g1,gC,q3,q3o,hle];repeat'(first|((first|refine hK' ?_|refine hB ?_);clear hK' hB K' B)|(apply hK';clear hK' K')|refine And.intro ?_ ?_|(clear hK' K';omega)))|refine sp ?_|fail)
   exact ⟨⟨q+1,es++[(u,w)],by omega,hnew,by simp,by simp,by simp [h18],by simp [h17,rows],by simp,by simp [h2]⟩,by simp;omega⟩
  ·rw [List.take_of_length_le (by omega)] at hes
   have hgr:es=grE l s:=hes
   have hvalid:bqf a es=true:=by
    simp only [bqf,Bool.and_eq_true,decide_eq_true_eq,List.all_eq_true,cql]
    refine ⟨⟨⟨ha1,by omega⟩,by omega⟩,fun e he=> ?_⟩
    rw [hgr,gq0] at he
    obtain ⟨y,hy,he⟩:=he
    obtain ⟨u,w,_,q2,q3⟩:=hedge y hy
    rw [q2,List.mem_singleton] at he
    subst he
    simp;omega
   have c2:=rank_ret (w0:=w0) (n:=a) (es:=es) (by omega)
   rw [hvalid] at c2
   simp only [if_true] at c2
   have hfin:(aqu es).2=grR l s:=by rw [hgr];rfl
   rw [hfin] at c2
   refine dqk 5 h5 m1 fun env' he he2=> ?_
   rw [cut_pairs es rfl] at he
   have g19:env' 19=I q:=by rw [he2 _ (by decide),h19]
   have g18:env' 18=I s.l.length:=by rw [he2 _ (by decide),h18]
   have g2:env' 2= .ptr bx 0 0:=by rw [he2 _ (by decide),h2]
   repeat'(with_reducible first|(refine sp (hK _ _ ?_);clear hK K)|refine vr [] fun K hK=>?_|((first|refine aqa fun K' hK'=>?_|refine aqb fun K' B hK' hB=>?_);simp[g19,g18,g2,he,g1,lb];repeat'(first|((first|refine hK' ?_|refine hB ?_);clear hK' hB K' B)|(apply hK';clear hK' K')|refine Ret.use c2 ?_|fail))|apply aqc|refine sp ?_|fail)
   exact ⟨by simp,hsub⟩
 have e1':(t=1)=False:=eq_false e1
 by_cases e2:t=2
 ·subst e2
  rw [if_neg (by omega),if_neg (by omega),if_pos rfl] at hp
  rw [if_neg (by omega),if_pos rfl]
  simp only [Bool.and_eq_true,decide_eq_true_eq] at hp
  match l,hp with
  | [cls,caps],hp=>
   have f0:([cls,caps]:List (List Int)).getD 0 []=cls:=rfl
   have f1:([cls,caps]:List (List Int)).getD 1 []=caps:=rfl
   rw [f0,f1] at hp ⊢
   simp only [numB,Bool.and_eq_true,decide_eq_true_eq,List.all_eq_true] at hp
   obtain ⟨⟨_,hc1,hc2⟩,hk1,hk2⟩:=hp
   have c1:=classes_ret (w0:=w0) (t:=2) (n:=n) (a:=a) (b:=b) (cls:=cls) (caps:=caps) (s:=s) (fun x hx=>by
    have h1:=hsb x hx
    have h2:x.toNat<cls.length:=by omega
    have h3:=hc1 _ (List.getElem_mem h2)
    exact ⟨cls[x.toNat],h1.1,fun _=>rfl,h2,h3.1,by omega⟩) hsl' hk1 (by omega)
   refine aqf Tryz.func134 rfl Tryz.ntmps134 (ts:=[4]) rfl (by simp) (by kernel_rfl) ?_
   repeat'(with_reducible first|(refine sp (hK _ _ ?_);clear hK K)|refine vr [] fun K hK=>?_|((first|refine aqa fun K' hK'=>?_|refine aqb fun K' B hK' hB=>?_);simp;repeat'(first|((first|refine hK' ?_|refine hB ?_);clear hK' hB K' B)|(apply hK';clear hK' K')|refine Ret.use c1 ?_|intro hg|fail))|apply aqc|refine sp ?_|fail)
   exact ⟨by simp,aqh (by assumption)⟩
 have e2':(t=2)=False:=eq_false e2
 by_cases e3:t=3
 ·subst e3
  rw [if_neg (by omega),if_neg (by omega),if_neg (by omega),if_pos rfl] at hp
  rw [if_neg (by omega),if_neg (by omega),if_pos rfl]
  simp only [Bool.and_eq_true,decide_eq_true_eq] at hp
  have c1:=iqx (w0:=w0) (l:=l) (s:=s) (fun x hx=>by have:=hsb x hx;omega) hsl'
  have hmc:mayM a (aq6 l s)=true:=by
   have h2:=hp.2
   simp only [mayM,Bool.and_eq_true,decide_eq_true_eq,List.all_eq_true] at h2 ⊢
   refine ⟨⟨h2.1.1,by simp [aq6];omega⟩,fun r hr=> ?_⟩
   rw [aq6,List.mem_map] at hr
   obtain ⟨y,hy,rfl⟩:=hr
   have:=hsb y (bqa.1 hy)
   have hyt:y.toNat<l.length:=by omega
   refine h2.2 _ ?_
   rw [List.getD_eq_getElem?_getD,List.getElem?_eq_getElem hyt]
   exact List.getElem_mem hyt
  obtain ⟨m,rfl,hG⟩:=jqr.1 hmc
  have hrb:∀ x:Int,∀ y∈l.getD x.toNat [],0<=y/\y<(m:Int):=fun x y hy=>by
   obtain ⟨m',hm',hG'⟩:=jqr.1 hp.2
   obtain rfl:m=m':=by omega
   exact hG'.nb (i:=((x.toNat:Nat):Int)) (by rw [nbM,show (((x.toNat:Nat):Int)).toNat=x.toNat by omega];exact hy)
  have hnu:=fun f g (hi:MInv m (aq6 l s) (aq6 l s).length f g)=>nu_tr (s:=s) (fun x hx=>(hsb x hx).1) (by omega) (by omega) hrb (hi.nu hG)
  have hcl:aqz (aq6 l s):=by
   have:(aq6 l s).length=s.l.length:=by simp [aq6]
   omega
  have hcr:∀ r∈aq6 l s,aqz r:=fun r hr=>by
   rw [aq6,List.mem_map] at hr
   obtain ⟨y,hy,rfl⟩:=hr
   obtain ⟨_,hr',_,_,_⟩:=h.nice
   by_cases hyt:y.toNat<l.length
   ·rw [List.getD_eq_getElem?_getD,List.getElem?_eq_getElem hyt]
    exact hr' _ (List.getElem_mem hyt)
   ·rw [List.getD_eq_getElem?_getD,List.getElem?_eq_none (by omega)];simp
  refine aqf Tryz.func134 rfl Tryz.ntmps134 (ts:=[4]) rfl (by simp) (by kernel_rfl) ?_
  repeat'(first|(with_reducible (refine sp (hK _ _ ?_);clear hK K))|(with_reducible refine vr [] fun K hK=>?_)|(with_reducible refine vd [] [42,43] mixed fun K hK=>?_)|((with_reducible first|refine aqa fun K' hK'=>?_|refine aqb fun K' B hK' hB=>?_|refine aqn fun K' hK'=>?_);simp[boxes,Blk.isArr,aqg.refl];repeat'(first|(with_reducible first|((first|refine hK' ?_|refine hB ?_);clear hK' hB K' B)|(apply hK';clear hK' K')|(refine Ret.use c1 ?_;try simp[boxes,Blk.isArr,aqg.refl]))|((with_reducible refine max_use hcl hcr hG (fun f g hi=> ?_));try simp[boxes,Blk.isArr,aqg.refl])|(with_reducible intro hg)|fail))|(with_reducible first|apply aqc|refine sp ?_)|fail)
  exact ⟨by simp [hnu f g hi],aqh (by assumption)⟩
 have e3':(t=3)=False:=eq_false e3
 by_cases e4:t=4
 ·subst e4
  rw [if_neg (by omega),if_neg (by omega),if_neg (by omega),if_neg (by omega),if_pos rfl] at hp
  rw [if_neg (by omega),if_neg (by omega),if_neg (by omega),if_pos rfl]
  simp only [Bool.and_eq_true,decide_eq_true_eq] at hp
  have c1:=iqx (w0:=w0) (l:=l) (s:=s) (fun x hx=>by have:=hsb x hx;omega) hsl'
  have hmE:=hp.2
  have hat:(a.toNat:Int)=a:=by omega
  have hmc:mayE b a.toNat (aq6 l s)=true:=by
   rw [hat]
   have hle:(aq6 l s).length=s.l.length:=by simp [aq6]
   simp only [mayE,Bool.and_eq_true,decide_eq_true_eq,List.all_eq_true] at hmE ⊢
   refine ⟨⟨hmE.1.1,by omega⟩,fun c hc=> ?_⟩
   rw [aq6,List.mem_map] at hc
   obtain ⟨y,hy,rfl⟩:=hc
   have:=hsb y (bqa.1 hy)
   have hyt:y.toNat<l.length:=by omega
   refine hmE.2 _ ?_
   rw [List.getD_eq_getElem?_getD,List.getElem?_eq_getElem hyt]
   exact List.getElem_mem hyt
  have c2:=elimRank_ret (w0:=w0) (n:=a.toNat) hb100 hmc
  rw [hat] at c2
  have hinv:=inv_ex hb100 (by simp only [mayE,Bool.and_eq_true] at hmE;exact hmE.1.1.1.1)
  have har:=jqv (n:=a.toNat) hinv l s.l fun x hx=>by have:=hsb x (bqa.1 hx);omega
  rw [cqn] at har
  have har':(accL b a.toNat (aq6 l s)).length=Clo.rk (LinC b a.toNat l) s:=har
  rw [<-har']
  refine aqf Tryz.func134 rfl Tryz.ntmps134 (ts:=[4]) rfl (by simp) (by kernel_rfl) ?_
  repeat'(with_reducible first|(refine sp (hK _ _ ?_);clear hK K)|refine vr [] fun K hK=>?_|(refine vd [] [54,55,56,57] mixed fun K hK=>?_)|((first|refine aqa fun K' hK'=>?_|refine aqb fun K' B hK' hB=>?_|refine aqn fun K' hK'=>?_);simp[boxes,Blk.isArr,aqg.refl];repeat'(first|((first|refine hK' ?_|refine hB ?_);clear hK' hB K' B)|(apply hK';clear hK' K')|(refine Ret.use c1 ?_;try simp[boxes,Blk.isArr,aqg.refl])|(refine Ret.use c2 ?_;try simp[boxes,Blk.isArr,aqg.refl])|intro hg|fail))|apply aqc|refine sp ?_|fail)
  exact ⟨by simp,aqh (by assumption)⟩
 have e4':(t=4)=False:=eq_false e4
 rw [if_neg e1,if_neg e2,if_neg e3,if_neg e4]
 by_cases k:(s.l.length:Int)<=a
 ·have hmin:(min s.card a.toNat:Nat)=s.l.length:=by
   have:s.card=s.l.length:=rfl
   omega
  rw [hmin]
  refine aqf Tryz.func134 rfl Tryz.ntmps134 (ts:=[4]) rfl (by simp) (by kernel_rfl) ?_
  repeat'(with_reducible first|(refine sp (hK _ _ ?_);clear hK K)|refine vr [] fun K hK=>?_|((first|refine aqa fun K' hK'=>?_|refine aqb fun K' B hK' hB=>?_);simp[e1',e2',e3',e4',ints];repeat'(first|((first|refine hK' ?_|refine hB ?_);clear hK' hB K' B)|(apply hK';clear hK' K')|intro hg|fail))|apply aqc|refine sp ?_|fail)
  exact ⟨by simp;omega,aqh (by assumption)⟩
 ·have hmin:((min s.card a.toNat:Nat):Int)=a:=by
   have:s.card=s.l.length:=rfl
   omega
  rw [hmin]
  refine aqf Tryz.func134 rfl Tryz.ntmps134 (ts:=[4]) rfl (by simp) (by kernel_rfl) ?_
  repeat'(with_reducible first|(refine sp (hK _ _ ?_);clear hK K)|refine vr [] fun K hK=>?_|((first|refine aqa fun K' hK'=>?_|refine aqb fun K' B hK' hB=>?_);simp[e1',e2',e3',e4',ints];repeat'(first|((first|refine hK' ?_|refine hB ?_);clear hK' hB K' B)|(apply hK';clear hK' K')|intro hg|fail))|apply aqc|refine sp ?_|fail)
  exact ⟨by simp;omega,aqh (by assumption)⟩
def SumOK (w0:World) (m:Mtd):Prop:=∀ s:FS,s⊆FS.upTo m.n.toNat->Ret Tryz.prog w0 133 [mtA m,ints s.l] (I (rkM m s))
set_option maxRecDepth 20000 in
set_option maxHeartbeats 4000000 in
theorem rank_step {t n a b:Int} {l:List (List Int)} {xs:List Mtd} (ih:∀ x∈xs,OkT x->∀ s:FS,s⊆FS.upTo x.n.toNat->Ret Tryz.prog w0 104 [mtA x,ints s.l] (I (rkM x s)))
  (h:OkT (.mk t n a b l xs)) (hsum:t=9->SumOK w0 (.mk t n a b l xs)) (s:FS) (hs:s⊆FS.upTo n.toNat):Ret Tryz.prog w0 104 [mtA (.mk t n a b l xs),ints s.l] (I (rkM (.mk t n a b l xs) s)):=by
 have hn:=h.n0
 have hsl:=bqt hs
 have hset:=cqg hs (by omega)
 intro H
 by_cases g:5<=t/\t<=9
 rotate_left
 ·have hlow:=(h.low g).2
  have c1:=plain_rank (w0:=w0) h g s hs
  have f5:(t=5)=False:=eq_false (by omega)
  have f6:(t=6)=False:=eq_false (by omega)
  have f7:(t=7)=False:=eq_false (by omega)
  have f8:(t=8)=False:=eq_false (by omega)
  have f9:(t=9)=False:=eq_false (by omega)
  simp only [mtA,mtC] at c1 ⊢
  refine aqf Tryz.func104 rfl Tryz.ntmps104 (ts:=[4]) rfl (by simp) (by kernel_rfl) ?_
  repeat'(with_reducible first|(refine aqd (hK _ _ ?_);clear hK K)|refine vr [] fun K hK=>?_|((first|refine aqa fun K' hK'=>?_|refine aqb fun K' B hK' hB=>?_);simp[f5,f6,f7,f8,f9];repeat'(first|((first|refine hK' ?_|refine hB ?_);clear hK' hB K' B)|(apply hK';clear hK' K')|refine Ret.use c1 ?_|intro hg|fail))|apply aqc|refine sp ?_|fail)
  exact ⟨by simp,aqh (by assumption)⟩
 obtain ⟨j1,j2,j3,j4,j5,hx,j7⟩:=h.nest g
 by_cases e9:t=9
 ·have f5:(t=5)=False:=eq_false (by omega)
  have f6:(t=6)=False:=eq_false (by omega)
  have f7:(t=7)=False:=eq_false (by omega)
  have f8:(t=8)=False:=eq_false (by omega)
  have f9:(t=9)=True:=eq_true e9
  have c1:=hsum e9 s hs
  simp only [mtA,mtC] at c1 ⊢
  refine aqf Tryz.func104 rfl Tryz.ntmps104 (ts:=[4]) rfl (by simp) (by kernel_rfl) ?_
  repeat'(with_reducible first|(refine aqd (hK _ _ ?_);clear hK K)|refine vr [] fun K hK=>?_|((first|refine aqa fun K' hK'=>?_|refine aqb fun K' B hK' hB=>?_);simp[f5,f6,f7,f8,f9];repeat'(first|((first|refine hK' ?_|refine hB ?_);clear hK' hB K' B)|(apply hK';clear hK' K')|refine Ret.use c1 ?_|intro hg|fail))|apply aqc|refine sp ?_|fail)
  exact ⟨by simp,aqh (by assumption)⟩
 have f9:(t=9)=False:=eq_false e9
 obtain ⟨x,rfl⟩:=nH_sum j3 (by omega)
 have hOx:=hx x (by simp)
 have hxn:=bq1 hOx.may
 have ihx:=ih x (by simp) hOx
 have hxrk:=hOx.rk
 have hHx:rkH [x]=rkM x:=funext fun s=>by rw [rkH]
 have hmx:mtA x= .agg (mtC x):=rfl
 rw [hmx] at ihx
 have hone:mtCs [x]=mtC x:=by simp [mtCs]
 have hcl:=cqh x
 have ht6:(mtC x).take 6=mtC x:=List.take_of_length_le (by omega)
 rw [rkM,eqv hs,hHx]
 simp only [mtA,mtC,hone,List.length_singleton]
 by_cases e5:t=5
 ·have f5:(t=5)=True:=eq_true e5
  have cI:=mqj (w0:=w0) h (.inl e5) s hs
  obtain ⟨x',T,hxx,rfl,_,hT,x0,x64,i1,i2,i3⟩:=h.five (.inl e5)
  obtain rfl:x=x':=by injection hxx
  have hL:imgL t [T.l] [x]=T.l:=by rw [imgL,if_neg (by omega)];rfl
  rw [hL] at i2 i3 cI
  have c2:=ihx (img T.l s) (nqg (fun y hy=>by have:=i3 y hy;omega) s)
  simp only [mtA,mtC,hone,List.length_singleton] at cI
  rw [if_pos e5]
  have f0:([T.l]:List (List Int)).getD 0 []=T.l:=rfl
  rw [f0]
  refine aqf Tryz.func104 rfl Tryz.ntmps104 (ts:=[4]) rfl (by simp) (by kernel_rfl) ?_
  repeat'(with_reducible first|(refine aqd (hK _ _ ?_);clear hK K)|refine vr [] fun K hK=>?_|((first|refine aqa fun K' hK'=>?_|refine aqb fun K' B hK' hB=>?_);simp[f5,ht6,hcl];repeat'(first|((first|refine hK' ?_|refine hB ?_);clear hK' hB K' B)|(apply hK';clear hK' K')|refine Ret.use cI ?_|refine Ret.use c2 ?_|intro hg|fail))|apply aqc|refine sp ?_|fail)
  exact ⟨by simp,aqh (by assumption)⟩
 have f5:(t=5)=False:=eq_false e5
 rw [if_neg e5]
 by_cases e6:t=6
 ·have f6:(t=6)=True:=eq_true e6
  have cI:=mqj (w0:=w0) h (.inr e6) s hs
  obtain ⟨x',T,hxx,rfl,_,hT,x0,x64,i1,i2,i3⟩:=h.five (.inr e6)
  obtain rfl:x=x':=by injection hxx
  obtain ⟨L,hL⟩:∃ L,imgL t [T.l] [x]=L:=⟨_,rfl⟩
  have hLc:L=cmpl x.n T.l:=by rw [<-hL,imgL,if_pos e6];rfl
  rw [hL] at i2 i3 cI
  have hsub':img L s⊆FS.upTo x.n.toNat:=nqg (fun y hy=>by have:=i3 y hy;omega) s
  have s1:=cqg hsub' (by omega)
  have s2:=cqg hT (by omega)
  have l1:=bqt hsub'
  have l2:=bqt hT
  have c3:=jq1 (w0:=w0) (a:=(img L s).l) (b:=T.l) (by omega) (by omega)
  rw [fs_union s1 s2] at c3
  have c4:=ihx (img L s∪T) fun y hy=>by
   rcases FS.mem_union.1 hy with hy | hy
   ·exact hsub' y hy
   ·exact hT y hy
  have c5:=ihx T hT
  have hmono:=hxrk.mono (a:=T) (b:=img L s∪T) fun y hy=>FS.mem_union.2 (.inr hy)
  have hb1:=hxrk.le_card (img L s∪T)
  have hb2:(img L s∪T).card<=x.n.toNat:=by
   have:=FS.card_le (a:=img L s∪T) (b:=FS.upTo x.n.toNat) fun y hy=>by
    rcases FS.mem_union.1 hy with hy | hy
    ·exact hsub' y hy
    ·exact hT y hy
   simpa using this
  simp only [mtA,mtC,hone,List.length_singleton] at cI
  rw [if_pos e6]
  have f0:FS.ofList (([T.l]:List (List Int)).getD 0 [])=T:=cqn T
  have f1:cmpl (nH [x]) (([T.l]:List (List Int)).getD 0 [])=L:=by rw [hLc];rfl
  rw [f0,f1]
  have hfin:((rkM x (img L s∪T)-rkM x T:Nat):Int)=(rkM x (img L s∪T):Int)-rkM x T:=by omega
  rw [hfin]
  generalize rkM x (img L s∪T)=k1 at *
  generalize rkM x T=k2 at *
  refine aqf Tryz.func104 rfl Tryz.ntmps104 (ts:=[4]) rfl (by simp) (by kernel_rfl) ?_
  repeat'(with_reducible first|(refine aqd (hK _ _ ?_);clear hK K)|((fail_if_success(refine aql 7 ?_));(fail_if_success(refine(?_:AWP _ _ _ (Code.region 7 _ _) _ _ _)));refine vr [] fun K hK=>?_)|((first|refine aqa fun K' hK'=>?_|refine aqb fun K' B hK' hB=>?_);simp[f5,f6,ht6,hcl];repeat'(first|((first|refine hK' ?_|refine hB ?_);clear hK' hB K' B)|(apply hK';clear hK' K')|refine Ret.use cI ?_|intro hg|fail))|((fail_if_success(refine aql 7 ?_));refine sp ?_)|fail)
  refine bqu mixed [] [34,35,36,37,39,40,41,42,45,46,47,48,49,50,51,52] [0,1,2,3,4,5,6,7,8,11,12,13,14,15,16,17,18,9,10,19,20,21] (by kernel_rfl) (fun K hK=> ?_)
  simp only [List.filterMap_cons,List.filterMap_nil,List.getElem?_cons_succ,List.getElem?_cons_zero]
  repeat'(with_reducible first|(refine sp (hK _ _ ?_);clear hK K)|(refine aqn fun K' hK'=>?_;simp[ht6,hcl,rows,boxes,Blk.isArr,aqg.refl];repeat'(first|(apply hK';clear hK' K')|(refine Ret.use c3 ?_;try simp[ht6,hcl,rows,boxes,Blk.isArr,aqg.refl])|(refine Ret.use c4 ?_;try simp[ht6,hcl,rows,boxes,Blk.isArr,aqg.refl])|(refine Ret.use c5 ?_;try simp[ht6,hcl,rows,boxes,Blk.isArr,aqg.refl])|refine And.intro ?_ ?_|(clear hK' K';omega)))|apply aqc|refine sp ?_|fail)
  exact ⟨by simp,aqh (by assumption)⟩
 have f6:(t=6)=False:=eq_false e6
 rw [if_neg e6]
 rw [if_pos (by omega)] at j7
 obtain ⟨rfl,hnS⟩:=j7
 rw [hqi] at hnS
 by_cases e7:t=7
 ·have f7:(t=7)=True:=eq_true e7
  rw [if_pos e7]
  have c2:=ihx s (by rw [<-hnS];exact hs)
  have hb1:=hxrk.le_card s
  have hmin:((min (rkM x s) a.toNat:Nat):Int)=min (rkM x s:Int) a:=by omega
  rw [hmin]
  generalize rkM x s=k1 at *
  refine aqf Tryz.func104 rfl Tryz.ntmps104 (ts:=[4]) rfl (by simp) (by kernel_rfl) ?_
  repeat'(with_reducible first|(refine aqd (hK _ _ ?_);clear hK K)|((fail_if_success(refine aql 9 ?_));(fail_if_success(refine(?_:AWP _ _ _ (Code.region 9 _ _) _ _ _)));refine vr [] fun K hK=>?_)|((first|refine aqa fun K' hK'=>?_|refine aqb fun K' B hK' hB=>?_);simp[f5,f6,f7,ht6,hcl];repeat'(first|((first|refine hK' ?_|refine hB ?_);clear hK' hB K' B)|(apply hK';clear hK' K')|intro hg|fail))|((fail_if_success(refine aql 9 ?_));refine sp ?_)|fail)
  refine bqu mixed [] [57,58,59,60,63,64] [0,1,2,3,4,6,7,5,8,9] (by kernel_rfl) (fun K hK=> ?_)
  simp only [List.filterMap_cons,List.filterMap_nil,List.getElem?_cons_succ,List.getElem?_cons_zero]
  repeat'(with_reducible first|(refine sp (hK _ _ ?_);clear hK K)|(refine aqn fun K' hK'=>?_;simp[ht6,hcl,boxes,Blk.isArr,aqg.refl];repeat'(first|(apply hK';clear hK' K')|(refine Ret.use c2 ?_;try simp[ht6,hcl,boxes,Blk.isArr,aqg.refl])|fail))|apply aqc|refine sp ?_|fail)
  exact ⟨by simp,aqh (by assumption)⟩
 have f7:(t=7)=False:=eq_false e7
 have e8:t=8:=by omega
 have f8:(t=8)=True:=eq_true e8
 rw [if_neg e7,if_pos e8,eqv hs]
 have hxE:FS.upTo n.toNat⊆FS.upTo x.n.toNat:=by rw [hnS];exact FS.sub_refl _
 have hEs:FS.upTo n.toNat \ s⊆FS.upTo n.toNat:=fun y hy=>(FS.mem_sdiff.1 hy).1
 have c2:Ret Tryz.prog w0 63 [I n] (ints (FS.upTo n.toNat).l):=by
  have:=kqy (w0:=w0) (n:=n)
  rwa [allL,if_pos (by omega)] at this
 have hEset:aq3 (FS.upTo n.toNat).l:=cqd (n:=n.toNat) (by omega)
 have hEl:(FS.upTo n.toNat).l.length=n.toNat:=FS.card_upTo n.toNat
 have c3:Ret Tryz.prog w0 62 [ints (FS.upTo n.toNat).l,ints s.l] (ints (FS.upTo n.toNat \ s).l):=by
  have:=dqg (w0:=w0) (a:=(FS.upTo n.toNat).l) (b:=s.l) (by omega) (by omega)
  rwa [nql hEset hset] at this
 have c4:=ihx (FS.upTo n.toNat \ s) (FS.sub_trans hEs hxE)
 have c5:=ihx (FS.upTo n.toNat) hxE
 have hk1:=hxrk.le_union (FS.upTo n.toNat \ s) s
 rw [show (FS.upTo n.toNat \ s)∪s=FS.upTo n.toNat from FS.ext fun y=>by have:=hs y;grind] at hk1
 have hk2:=hxrk.le_card (FS.upTo n.toNat)
 have hk3:=hxrk.le_card (FS.upTo n.toNat \ s)
 have hk4:(FS.upTo n.toNat \ s).card<=n.toNat:=by
  have:=FS.card_le hEs
  simpa using this
 have hk5:(FS.upTo n.toNat).card=n.toNat:=FS.card_upTo _
 have hsc:s.card=s.l.length:=rfl
 have hfin:((s.card+rkM x (FS.upTo n.toNat \ s)-rkM x (FS.upTo n.toNat):Nat):Int)=(s.l.length:Int)-rkM x (FS.upTo n.toNat)+rkM x (FS.upTo n.toNat \ s):=by omega
 rw [hfin]
 generalize rkM x (FS.upTo n.toNat \ s)=k1 at *
 generalize rkM x (FS.upTo n.toNat)=k2 at *
 refine aqf Tryz.func104 rfl Tryz.ntmps104 (ts:=[4]) rfl (by simp) (by kernel_rfl) ?_
 repeat'(with_reducible first|(refine aqd (hK _ _ ?_);clear hK K)|((fail_if_success(refine aql 12 ?_));(fail_if_success(refine(?_:AWP _ _ _ (Code.region 12 _ _) _ _ _)));refine vr [] fun K hK=>?_)|((first|refine aqa fun K' hK'=>?_|refine aqb fun K' B hK' hB=>?_);simp[f5,f6,f7,f8,ht6,hcl];repeat'(first|((first|refine hK' ?_|refine hB ?_);clear hK' hB K' B)|(apply hK';clear hK' K')|refine Ret.use c2 ?_|intro hg|fail))|((fail_if_success(refine aql 12 ?_));refine sp ?_)|fail)
 refine bqu mixed [] [73,74,75,76,80,81,82,83] [0,1,2,3,4,5,6,9,10,11,12,13,14,7,8,15,16,17,18] (by kernel_rfl) (fun K hK=> ?_)
 simp only [List.filterMap_cons,List.filterMap_nil,List.getElem?_cons_succ,List.getElem?_cons_zero]
 repeat'(with_reducible first|(refine sp (hK _ _ ?_);clear hK K)|(refine aqn fun K' hK'=>?_;simp[ht6,hcl,boxes,Blk.isArr,aqg.refl];repeat'(first|(apply hK';clear hK' K')|(refine Ret.use c3 ?_;try simp[ht6,hcl,boxes,Blk.isArr,aqg.refl])|(refine Ret.use c4 ?_;try simp[ht6,hcl,boxes,Blk.isArr,aqg.refl])|(refine Ret.use c5 ?_;try simp[ht6,hcl,boxes,Blk.isArr,aqg.refl])|refine And.intro ?_ ?_|(clear hK' K';omega)))|apply aqc|refine sp ?_|fail)
 exact ⟨by simp,aqh (by assumption)⟩
theorem rkS_app {xs:List Mtd} {x:Mtd} {s:FS}:∀ {f:Int},rkS (xs++[x]) f s=rkS xs f s+rkM x (shf (f+nS xs) x.n s):=by
 induction xs with
 | nil=>intro f;simp [rkS,nS]
 | cons y xs ih=>
  intro f
  have e:nS (y::xs)=y.n+nS xs:=by simp [nS]
  rw [List.cons_append,rkS,rkS,ih,e,<-Int.add_assoc];omega
set_option maxRecDepth 20000 in
set_option maxHeartbeats 4000000 in
theorem summed_ret {t n a b:Int} {l:List (List Int)} {xs:List Mtd} (ih:∀ x∈xs,OkT x->∀ s:FS,s⊆FS.upTo x.n.toNat->Ret Tryz.prog w0 104 [mtA x,ints s.l] (I (rkM x s)))
  (h:OkT (.mk t n a b l xs)) (e9:t=9):SumOK w0 (.mk t n a b l xs):=by
 intro s hs0
 have hs:s⊆FS.upTo n.toNat:=hs0
 clear hs0
 have hn:=h.n0
 have hsl:=bqt hs
 obtain ⟨j1,j2,j3,j4,j5,hx,j7⟩:=h.nest (by omega)
 rw [if_pos (by omega)] at j7
 obtain ⟨rfl,hnS⟩:=j7
 have hxb:∀ y∈xs,0<=y.n/\y.n<=64:=fun y hy=>bq1 (hx y hy).may
 have hval:rkM (.mk t n a b [] xs) s=rkS xs 0 s:=by
  rw [rkM,eqv hs,if_neg (by omega),if_neg (by omega),if_neg (by omega),if_neg (by omega),if_pos e9]
 rw [hval]
 have hpart:∀ q,rkS (xs.take q) 0 s<=64:=fun q=>by
  have h1:=(rkS_le (xs:=xs.take q) (fun y hy=>(hx y (List.mem_of_mem_take hy)).rk) 0 s).1
  have h2:=cS_card (xs.take q) (fun y hy=>(hxb y (List.mem_of_mem_take hy)).1) 0 s
  have h3:(s.filter fun x=>decide (0<=x/\x<0+nS (xs.take q))).card<=s.card:=FS.card_le fun x hx=>(FS.mem_filter.1 hx).1
  have h4:s.card=s.l.length:=rfl
  omega
 intro H
 simp only [mtA,mtC]
 refine aqf Tryz.func133 rfl Tryz.ntmps133 (ts:=[4]) rfl (by simp) (by kernel_rfl) ?_
 repeat'(with_reducible first|(refine aqd (hK _ _ ?_);clear hK K)|refine vr [] fun K hK=>?_|(refine aqa fun K' hK'=>?_;simp;repeat'(first|(apply hK';clear hK' K')|intro hg|fail))|refine sp ?_|fail)
 rename_i bx
 have hb:H bx=none:=hg
 clear hg
 obtain ⟨H1,hH1⟩:∃ H1,H1=upd H bx (some (.box [I t,I n,I a,I b,rows [],.sl (mtCs xs) xs.length])):=⟨_,rfl⟩
 have hsub:Sub H H1:=by rw [hH1];exact aqh hb
 rw [<-hH1]
 clear hH1 hb
 refine aqi (fun env h=>∃ q:Nat,q<=xs.length/\Sub H1 h/\env 15=I q/\env 14=I xs.length/\env 13= .sl (mtCs xs) xs.length/\env 5=I (rkS (xs.take q) 0 s)/\env 6=I (nS (xs.take q))/\env 1=ints s.l) (fun env _=>xs.length-natA (env 15)) ?_ ?_
 ·exact ⟨0,by omega,.refl _,by simp,by simp,by simp,by simp [rkS],by simp [nS],by simp⟩
 rintro env h' ⟨q,hq,hsb,h15,h14,h13,h5,h6,h1⟩
 have hnat:natA (env 15)=q:=by simp [h15]
 rw [hnat];clear hnat
 by_cases g1:q<xs.length
 ·have hat:=dq1 g1
  have hcsl:=dqb xs
  have hlt':q*6+6<=xs.length*6:=by omega
  obtain ⟨x,hx'⟩:∃ x,xs[q]=x:=⟨_,rfl⟩
  have hxm:x∈xs:=by rw [<-hx'];exact List.getElem_mem _
  rw [hx'] at hat
  have hxn:=hxb x hxm
  have htk:xs.take (q+1)=xs.take q++[x]:=by rw [List.take_succ_eq_append_getElem g1,hx']
  have hra:=rkS_app (xs:=xs.take q) (x:=x) (s:=s) (f:=0)
  rw [<-htk,Int.zero_add] at hra
  have hna:nS (xs.take (q+1))=nS (xs.take q)+x.n:=by rw [htk];simp [nS]
  have hbn:0<=nS (xs.take q)/\nS (xs.take q)<=64*(xs.take q).length:=hqj (xs:=xs.take q) fun z hz=>hxb z (List.mem_of_mem_take hz)
  have htl:(xs.take q).length<=8:=by rw [List.length_take];omega
  have hp1:=hpart q
  have hp2:=hpart (q+1)
  have hcl:=cqh x
  have ht6:(mtC x).take 6=mtC x:=List.take_of_length_le (by omega)
  have hset6:setL [.sc (.int .i64 0),.sc (.int .i64 0),.sc (.int .i64 0),.sc (.int .i64 0),.sc (.slice none 0 0),.sc (.slice none 0 0)] 0 (mtC x)=mtC x:=by cases x;rfl
  have hx1:(mtC x)[1]? =some (I x.n):=by cases x;rfl
  have hx1':∀ h,(mtC x)[1]'h=I x.n:=fun h=>mtC_at1
  obtain ⟨f,hf⟩:∃ f,nS (xs.take q)=f:=⟨_,rfl⟩
  rw [hf] at h6 hra hna hbn
  have ci:=ih x hxm (hx x hxm) (shf f x.n s) fun z hz=>by
   rw [dqi] at hz;rw [FS.mem_upTo];omega
  have hmx:mtA x= .agg (mtC x):=rfl
  rw [hmx,shf_list] at ci
  generalize rkS (xs.take q) 0 s=k0 at *
  generalize rkM x (shf f x.n s)=k1 at *
  repeat'(with_reducible first|(refine aqd (hK _ _ ?_);clear hK K)|((fail_if_success(refine aql 7 ?_));(fail_if_success(refine(?_:AWP _ _ _ (Code.region 7 _ _) _ _ _)));refine vr [9] fun K hK=>?_)|((first|refine aqa fun K' hK'=>?_|refine aqb fun K' B hK' hB=>?_);simp[h15,h14,h13,h5,h6,h1,g1,hat,hcsl,hlt',hset6];repeat'(first|((first|refine hK' ?_|refine hB ?_);clear hK' hB K' B)|(apply hK';clear hK' K')|refine And.intro ?_ ?_|intro hg|(clear hK' K';omega)))|((fail_if_success(refine aql 7 ?_));refine sp ?_)|fail)
  rename_i bi hbi r
  have hri:r≠bi:=by rintro rfl;simp at hg
  have hr0:h' r=none:=by rw [if_neg hri] at hg;exact hg
  have hir:bi≠r:=Ne.symm hri
  clear hg
  obtain ⟨H2,hH2⟩:∃ H2,H2=upd h' bi (some (.box (mtC x))):=⟨_,rfl⟩
  have hs2:Sub H1 H2:=by rw [hH2];exact hsb.trans (aqh hbi)
  have li:H2 bi=some (.box (mtC x)):=by rw [hH2,aqj]
  have r2:H2 r=none:=by rw [hH2,aqm _ _ _ hri];exact hr0
  rw [<-hH2]
  clear hH2 hbi hr0
  refine aqi (fun env h=>∃ (p:Nat) (o:List Int),p<=s.l.length/\o=((s.l.take p).filter fun x_1=>decide (f<=x_1/\x_1<f+x.n)).map (· - f)/\o.length<=p/\h=upd H2 r (some (.arr 1 3 (o.map I) o.length))/\env 21=I p/\env 20=I s.l.length/\env 19=ints s.l/\env 9= .ref r 0 o.length o.length/\env 8= .ptr bi 0 0/\
   env 15=I q/\env 14=I xs.length/\env 13= .sl (mtCs xs) xs.length/\env 5=I k0/\env 6=I f/\env 1=ints s.l) (fun env _=>s.l.length-natA (env 21)) ?_ ?_
  ·exact ⟨0,[],by omega,by simp,by simp,by simp,by simp,by simp,by simp,by simp,by simp,by simp [h15],by simp [h14],by simp [h13],by simp [h5],by simp [h6],by simp [h1]⟩
  clear h15 h14 h13 h5 h6 h1 hsb
  clear h' env
  rintro env h' ⟨p,o,hp,ho,hol,rfl,h21,h20,h19,h9,h8,h15,h14,h13,h5,h6,h1⟩
  have hnat:natA (env 21)=p:=by simp [h21]
  rw [hnat];clear hnat
  by_cases g2:p<s.l.length
  ·obtain ⟨y,hy⟩:∃ y,s.l[p]=y:=⟨_,rfl⟩
   have hym:0<=y/\y<=64:=by
    have:=FS.mem_upTo.1 (hs y (by rw [<-bqa,<-hy];exact List.getElem_mem _))
    omega
   have htk2:s.l.take (p+1)=s.l.take p++[y]:=by rw [List.take_succ_eq_append_getElem g2,hy]
   have hgy:∀ h,s.l[p]'h=y:=fun _=>hy
   have hgo:s.l[p]? =some y:=by simp [g2,hy]
   have hnew:((s.l.take (p+1)).filter fun x_1=>decide (f<=x_1/\x_1<f+x.n)).map (· - f)=o++if f<=y/\y<f+x.n then [y-f] else []:=by
    rw [htk2,List.filter_append,List.map_append,<-ho]
    congr 1
    by_cases e:f<=y/\y<f+x.n
    ·rw [if_pos e,List.filter_cons_of_pos (by simpa using e)];rfl
    ·rw [if_neg e,List.filter_cons_of_neg (by simpa using e)];rfl
   by_cases e1:f<=y
   ·by_cases e2:y<f+x.n
    ·rw [if_pos ⟨e1,e2⟩] at hnew
     repeat'(with_reducible first|(refine aqd (hK _ _ ?_);clear hK K)|refine vr [] fun K hK=>?_|((first|refine aqa fun K' hK'=>?_|refine aqb fun K' B hK' hB=>?_|(apply aqk;refine aqe rfl fun K' hK'=>?_));simp[h21,h20,h19,h9,h8,h15,h14,h13,h5,h6,h1,ints,g2,hgy,hgo,e1,e2,li,hir,hx1,hx1',hcl];repeat'(first|((first|refine hK' ?_|refine hB ?_);clear hK' hB K' B)|(apply hK';clear hK' K')|refine And.intro ?_ ?_|(clear hK' K';omega)))|refine sp ?_|fail)
     exact ⟨⟨p+1,o++[y-f],by omega,hnew.symm,by simp;omega,by simp [aqx],by simp,by simp [h20],by simp [h19,ints],by simp,by simp [h8],by simp [h15],by simp [h14],by simp [h13],by simp [h5],by simp [h6],by simp [h1,ints]⟩,by simp;omega⟩
    ·rw [if_neg (fun h=>e2 h.2),List.append_nil] at hnew
     repeat'(with_reducible first|(refine aqd (hK _ _ ?_);clear hK K)|refine vr [] fun K hK=>?_|((first|refine aqa fun K' hK'=>?_|refine aqb fun K' B hK' hB=>?_|(apply aqk;refine aqe rfl fun K' hK'=>?_));simp[h21,h20,h19,h9,h8,h15,h14,h13,h5,h6,h1,ints,g2,hgy,hgo,e1,e2,li,hir,hx1,hx1',hcl];repeat'(first|((first|refine hK' ?_|refine hB ?_);clear hK' hB K' B)|(apply hK';clear hK' K')|refine And.intro ?_ ?_|(clear hK' K';omega)))|refine sp ?_|fail)
     exact ⟨⟨p+1,o,by omega,hnew.symm,by omega,rfl,by simp,by simp [h20],by simp [h19,ints],by simp [h9],by simp [h8],by simp [h15],by simp [h14],by simp [h13],by simp [h5],by simp [h6],by simp [h1,ints]⟩,by simp;omega⟩
   ·rw [if_neg (fun h=>e1 h.1),List.append_nil] at hnew
    repeat'(with_reducible first|(refine aqd (hK _ _ ?_);clear hK K)|refine vr [] fun K hK=>?_|((first|refine aqa fun K' hK'=>?_|refine aqb fun K' B hK' hB=>?_|(apply aqk;refine aqe rfl fun K' hK'=>?_));simp[h21,h20,h19,h9,h8,h15,h14,h13,h5,h6,h1,ints,g2,hgy,hgo,e1,li,hir,hx1,hx1',hcl];repeat'(first|((first|refine hK' ?_|refine hB ?_);clear hK' hB K' B)|(apply hK';clear hK' K')|refine And.intro ?_ ?_|(clear hK' K';omega)))|refine sp ?_|fail)
    exact ⟨⟨p+1,o,by omega,hnew.symm,by omega,rfl,by simp,by simp [h20],by simp [h19,ints],by simp [h9],by simp [h8],by simp [h15],by simp [h14],by simp [h13],by simp [h5],by simp [h6],by simp [h1,ints]⟩,by simp;omega⟩
  ·rw [List.take_of_length_le (by omega)] at ho
   rw [<-ho] at ci
   refine dqk 9 h9 r2 fun env' he he2=> ?_
   rw [bqw] at he
   have g21:env' 21=I p:=by rw [he2 _ (by decide),h21]
   have g20:env' 20=I s.l.length:=by rw [he2 _ (by decide),h20]
   have g8:env' 8= .ptr bi 0 0:=by rw [he2 _ (by decide),h8]
   have g15:env' 15=I q:=by rw [he2 _ (by decide),h15]
   have g14:env' 14=I xs.length:=by rw [he2 _ (by decide),h14]
   have g13:env' 13= .sl (mtCs xs) xs.length:=by rw [he2 _ (by decide),h13]
   have g5:env' 5=I k0:=by rw [he2 _ (by decide),h5]
   have g6:env' 6=I f:=by rw [he2 _ (by decide),h6]
   have g1':env' 1=ints s.l:=by rw [he2 _ (by decide),h1]
   simp only [ints] at ci
   repeat'(with_reducible first|(refine aqd (hK _ _ ?_);clear hK K)|refine vr [] fun K hK=>?_|((first|refine aqa fun K' hK'=>?_|refine aqb fun K' B hK' hB=>?_);simp[g21,g20,g8,g15,g14,g13,g5,g6,g1',he,g2,li,ht6,hx1,hx1',hcl];repeat'(first|((first|refine hK' ?_|refine hB ?_);clear hK' hB K' B)|(apply hK';clear hK' K')|refine Ret.use ci ?_|refine And.intro ?_ ?_|(clear hK' K';omega)))|refine sp ?_|fail)
   exact ⟨⟨q+1,by omega,hs2,by simp,by simp [g14],by simp [g13],by rw [hra];simp,by rw [hna];simp,by simp [g1',ints]⟩,by simp;omega⟩
 ·rw [List.take_of_length_le (by omega)] at h5
  repeat'(with_reducible first|(refine aqd (hK _ _ ?_);clear hK K)|refine vr [] fun K hK=>?_|((first|refine aqa fun K' hK'=>?_|refine aqb fun K' B hK' hB=>?_);simp[h15,h14,h13,h5,h6,h1,g1];repeat'(first|((first|refine hK' ?_|refine hB ?_);clear hK' hB K' B)|(apply hK';clear hK' K')|fail))|apply aqc|refine sp ?_|fail)
  exact ⟨by simp,hsub.trans hsb⟩
theorem rank_all:∀ m,OkT m->∀ s:FS,s⊆FS.upTo m.n.toNat->Ret Tryz.prog w0 104 [mtA m,ints s.l] (I (rkM m s)):=by
 refine Mtd.ind fun t n a b l xs ih h s hs=> ?_
 exact rank_step ih h (fun e9=>summed_ret ih h e9) s hs
theorem elements_ret {m:Mtd} {s:List Int} (hl:aqz s):Ret Tryz.prog w0 118 [mtA m,ints s] (B (ptsB s m.n)):=by
 intro H
 obtain ⟨t,n,a,b,l,xs⟩:=m
 have hn:(Mtd.mk t n a b l xs).n=n:=rfl
 rw [hn]
 simp only [mtA,mtC]
 have c1:=dqj (w0:=w0) (l:=s) hl
 simp only [ints] at c1
 refine aqf Tryz.func118 rfl Tryz.ntmps118 (ts:=[4]) rfl (by simp) (by kernel_rfl) ?_
 cases hr:aqw (-1) s with
 | false=>
  rw [hr] at c1
  repeat'(with_reducible first|(refine sp (hK _ _ ?_);clear hK K)|refine vr [] fun K hK=>?_|(refine vd [] [] mixed fun K hK=>?_)|((first|refine aqa fun K' hK'=>?_|refine aqn fun K' hK'=>?_|(apply bq8;refine aqt rfl fun K' hK'=>?_));simp[ints];repeat'(first|(apply hK';clear hK' K')|refine Ret.use c1 ?_|intro hg|fail))|apply aqc|refine sp ?_|fail)
  exact ⟨by simp [ptsB,hr],aqh (by assumption)⟩
 | true=>
  rw [hr] at c1
  by_cases hne:s=[]
  ·subst hne
   simp only [List.map_nil,List.length_nil] at c1
   repeat'(with_reducible first|(refine sp (hK _ _ ?_);clear hK K)|refine vr [] fun K hK=>?_|(refine vd [] [] mixed fun K hK=>?_)|((first|refine aqa fun K' hK'=>?_|refine aqn fun K' hK'=>?_|(apply bq8;refine aqt rfl fun K' hK'=>?_));simp[ints];repeat'(first|(apply hK';clear hK' K')|refine Ret.use c1 ?_|intro hg|fail))|apply aqc|refine sp ?_|fail)
   exact ⟨by simp [ptsB,hr],aqh (by assumption)⟩
  ·have hpos:=List.length_pos_iff.2 hne
   have hlt:s.length-1<s.length:=by omega
   have hlast:=fqo (n:=n) hr hne hlt
   have hi:((s.length:Int)-1).toNat=s.length-1:=by omega
   have hi0:(0:Int)<=(s.length:Int)-1:=by omega
   repeat'(with_reducible first|(refine sp (hK _ _ ?_);clear hK K)|refine vr [] fun K hK=>?_|(refine vd [] [] mixed fun K hK=>?_)|((first|refine aqa fun K' hK'=>?_|refine aqn fun K' hK'=>?_|(apply bq8;refine aqt rfl fun K' hK'=>?_));simp[ints,hne,hi,hi0,hlt];repeat'(first|(apply hK';clear hK' K')|refine Ret.use c1 ?_|refine And.intro ?_ ?_|intro hg|(clear hK' K';omega)))|apply aqc|refine sp ?_|fail)
   exact ⟨by simp [ptsB,hr,hlast],aqh (by assumption)⟩
theorem jqx {m:Mtd} (h:OkT m) {s:List Int} (hl:aqz s):Ret Tryz.prog w0 83 [mtA m,ints s] (B (setT m s)):=by
 have c1:=gqh (w0:=w0) h
 have c2:=elements_ret (w0:=w0) (m:=m) hl
 intro H
 rw [setT,h.check,show decide ((0:Int)=0)=true from rfl,Bool.true_and]
 generalize ptsB s m.n=v at *
 obtain ⟨t,n,a,b,l,xs⟩:=m
 simp only [mtA,mtC] at c1 c2 ⊢
 refine aqf Tryz.func83 rfl Tryz.ntmps83 (ts:=[4]) rfl (by simp) (by kernel_rfl) ?_
 repeat'(with_reducible first|(refine aqd (hK _ _ ?_);clear hK K)|refine vr [] fun K hK=>?_|((first|refine aqa fun K' hK'=>?_|(apply aqk;refine aqe rfl fun K' hK'=>?_));simp;repeat'(first|(apply hK';clear hK' K')|refine Ret.use c1 ?_|refine Ret.use c2 ?_|intro hg|fail))|apply aqc|refine sp ?_|fail)
 exact ⟨by simp,aqh (by assumption)⟩
theorem RankP_ret {m:Mtd} (h:OkT m) {s:List Int} (hl:aqz s):Ret Tryz.prog w0 84 [mtA m,ints s] (I (rankT m s)):=by
 have c1:=jqx (w0:=w0) h hl
 intro H
 rw [rankT]
 cases g:setT m s with
 | false=>
  rw [g] at c1
  obtain ⟨t,n,a,b,l,xs⟩:=m
  simp only [mtA,mtC] at c1 ⊢
  refine aqf Tryz.func84 rfl Tryz.ntmps84 (ts:=[4]) rfl (by simp) (by kernel_rfl) ?_
  repeat'(with_reducible first|(refine aqd (hK _ _ ?_);clear hK K)|refine vr [] fun K hK=>?_|((first|refine aqa fun K' hK'=>?_|refine aqb fun K' B hK' hB=>?_);simp;repeat'(first|((first|refine hK' ?_|refine hB ?_);clear hK' hB K' B)|(apply hK';clear hK' K')|refine Ret.use c1 ?_|intro hg|fail))|apply aqc|refine sp ?_|fail)
  exact ⟨by simp,aqh (by assumption)⟩
 | true=>
  rw [g] at c1
  obtain ⟨hO,S,rfl,hS⟩:=(dqn h.nice).1 g
  have c2:=rank_all (w0:=w0) m hO S hS
  rw [cqn,if_pos rfl]
  generalize rkM m S=k at *
  obtain ⟨t,n,a,b,l,xs⟩:=m
  simp only [mtA,mtC] at c1 c2 ⊢
  refine aqf Tryz.func84 rfl Tryz.ntmps84 (ts:=[4]) rfl (by simp) (by kernel_rfl) ?_
  repeat'(with_reducible first|(refine aqd (hK _ _ ?_);clear hK K)|refine vr [] fun K hK=>?_|((first|refine aqa fun K' hK'=>?_|refine aqb fun K' B hK' hB=>?_);simp;repeat'(first|((first|refine hK' ?_|refine hB ?_);clear hK' hB K' B)|(apply hK';clear hK' K')|refine Ret.use c1 ?_|refine Ret.use c2 ?_|intro hg|fail))|apply aqc|refine sp ?_|fail)
  exact ⟨by simp,aqh (by assumption)⟩
theorem gqg {m:Mtd} (h:OkT m) {s:List Int} (hl:aqz s):Ret Tryz.prog w0 68 [mtA m,ints s] (B (indT m s)):=by
 have c1:=jqx (w0:=w0) h hl
 intro H
 rw [indT]
 cases g:setT m s with
 | false=>
  rw [g] at c1
  obtain ⟨t,n,a,b,l,xs⟩:=m
  simp only [mtA,mtC] at c1 ⊢
  refine aqf Tryz.func68 rfl Tryz.ntmps68 (ts:=[4]) rfl (by simp) (by kernel_rfl) ?_
  repeat'(with_reducible first|(refine aqd (hK _ _ ?_);clear hK K)|refine vr [] fun K hK=>?_|((first|refine aqa fun K' hK'=>?_|(apply aqk;refine aqe rfl fun K' hK'=>?_));simp;repeat'(first|(apply hK';clear hK' K')|refine Ret.use c1 ?_|intro hg|fail))|apply aqc|refine sp ?_|fail)
  exact ⟨by simp,aqh (by assumption)⟩
 | true=>
  rw [g] at c1
  obtain ⟨hO,S,rfl,hS⟩:=(dqn h.nice).1 g
  have c2:=rank_all (w0:=w0) m hO S hS
  rw [cqn]
  have hfin:decide ((rkM m S:Int)=S.l.length)=decide (Rk.Ind (rkM m) S):=by
   rw [Bool.eq_iff_iff,decide_eq_true_iff,decide_eq_true_iff]
   show ((rkM m S:Nat):Int)=(S.card:Nat)↔rkM m S=S.card
   omega
  rw [<-hfin]
  generalize rkM m S=k at *
  obtain ⟨t,n,a,b,l,xs⟩:=m
  have hi:ints S.l= .sl (S.l.map I) S.l.length:=rfl
  simp only [mtA,mtC,hi] at c1 c2 ⊢
  refine aqf Tryz.func68 rfl Tryz.ntmps68 (ts:=[4]) rfl (by simp) (by kernel_rfl) ?_
  repeat'(with_reducible first|(refine aqd (hK _ _ ?_);clear hK K)|refine vr [] fun K hK=>?_|((first|refine aqa fun K' hK'=>?_|(apply aqk;refine aqe rfl fun K' hK'=>?_));simp;repeat'(first|(apply hK';clear hK' K')|refine Ret.use c1 ?_|refine Ret.use c2 ?_|intro hg|fail))|apply aqc|refine sp ?_|fail)
  exact ⟨by simp,aqh (by assumption)⟩
theorem fqa {m:Mtd} (h:OkT m) {S:FS} (hS:S⊆FS.upTo m.n.toNat):indT m S.l=decide (Rk.Ind (rkM m) S):=by
 rw [indT,(dqn h.nice).2 ⟨h,S,rfl,hS⟩,Bool.true_and,cqn]
section
variable {m:Mtd} {S:FS} {x y:Int}
theorem one_set (hx:0<=x/\x<m.n) (h64:m.n<=64):aq3 [x]:=aq3.one ⟨hx.1,by omega⟩
theorem ins_sub (hS:S⊆FS.upTo m.n.toNat) (hx:0<=x/\x<m.n):(insert x S:FS)⊆FS.upTo m.n.toNat:=fun z hz=>by
 rcases FS.mem_insert.1 hz with rfl | hz
 ·rw [FS.mem_upTo];omega
 ·exact hS z hz
theorem union_one (hS:aq3 S.l) (hx:aq3 [x]):bql S.l [x]=(insert x S:FS).l:=by
 have:=bq2 hS hx
 refine cqu this.1.up (insert x S).up fun z=> ?_
 rw [this.2,bqa,bqa,FS.mem_insert,List.mem_singleton];exact Or.comm
theorem minus_one:S.l.filter (fun z=> !decide (z∈[y]))=(S.erase y).l:=by
 refine cqu (S.up.filter _) (S.erase y).up fun z=> ?_
 rw [List.mem_filter,bqa,bqa,FS.mem_erase];simp
theorem ers_sub (hS:S⊆FS.upTo m.n.toNat):S.erase y⊆FS.upTo m.n.toNat:=fun z hz=>hS z (FS.mem_erase.1 hz).1
end
theorem adds_ret {m:Mtd} (h:OkT m) {S:FS} (hS:S⊆FS.upTo m.n.toNat) {x:Int} (hx:0<=x/\x<m.n):Ret Tryz.prog w0 64 [.agg (mtC m++[ints S.l]),I x] (B (decide (Rk.Ind (rkM m) (insert x S)))):=by
 have hmn:=bq1 h.may
 have hset:=cqg hS (by omega)
 have hlen:=bqt hS
 have hone:=one_set hx hmn.2
 have c1:=jq1 (w0:=w0) (a:=S.l) (b:=[x]) (by omega) (by simp)
 rw [union_R,union_one hset hone] at c1
 have hins:=ins_sub hS hx
 have hil:=bqt hins
 have c2:=gqg (w0:=w0) h (s:=(insert x S:FS).l) (by omega)
 rw [fqa h hins] at c2
 generalize decide (Rk.Ind (rkM m) (insert x S))=v at *
 intro H
 obtain ⟨t,n,a,b,l,xs⟩:=m
 simp only [mtA,mtC,ints,List.map_cons,List.map_nil,List.length_singleton,List.cons_append,List.nil_append] at c1 c2 ⊢
 refine aqf Tryz.func64 rfl Tryz.ntmps64 (ts:=[4]) rfl (by simp) (by kernel_rfl) ?_
 repeat'(with_reducible first|(refine sp (hK _ _ ?_);clear hK K)|refine vr [] fun K hK=>?_|(refine vd [] [5,6,7,8] mixed fun K hK=>?_)|((first|refine aqa fun K' hK'=>?_|refine aqn fun K' hK'=>?_);simp[boxes,Blk.isArr,aqg.refl];repeat'(first|(apply hK';clear hK' K')|(refine Ret.use c1 ?_;try simp[boxes,Blk.isArr,aqg.refl])|(refine Ret.use c2 ?_;try simp[boxes,Blk.isArr,aqg.refl])|intro hg|fail))|apply aqc|refine sp ?_|fail)
 exact ⟨by simp,aqh (by assumption)⟩
theorem lqh {m:Mtd} (h:OkT m) {S:FS} (hS:S⊆FS.upTo m.n.toNat) {x y:Int} (hx:0<=x/\x<m.n) (hy:0<=y/\y<m.n):Ret Tryz.prog w0 65 [.agg (mtC m++[ints S.l]),I x,I y] (B (decide (Rk.Ind (rkM m) (insert x (S.erase y))))):=by
 have hmn:=bq1 h.may
 have hset:=cqg hS (by omega)
 have hlen:=bqt hS
 have hone:=one_set hx hmn.2
 have hone':=one_set hy hmn.2
 have hE:=ers_sub (y:=y) hS
 have hEs:=cqg hE (by omega)
 have hEl:=bqt hE
 have c0:=dqg (w0:=w0) (a:=S.l) (b:=[y]) (by omega) (by simp)
 rw [equ hset hone',minus_one] at c0
 have c1:=jq1 (w0:=w0) (a:=(S.erase y).l) (b:=[x]) (by omega) (by simp)
 rw [union_R,union_one hEs hone] at c1
 have hins:=ins_sub hE hx
 have hil:=bqt hins
 have c2:=gqg (w0:=w0) h (s:=(insert x (S.erase y):FS).l) (by omega)
 rw [fqa h hins] at c2
 generalize decide (Rk.Ind (rkM m) (insert x (S.erase y)))=v at *
 intro H
 obtain ⟨t,n,a,b,l,xs⟩:=m
 simp only [mtA,mtC,ints,List.map_cons,List.map_nil,List.length_singleton,List.cons_append,List.nil_append] at c0 c1 c2 ⊢
 refine aqf Tryz.func65 rfl Tryz.ntmps65 (ts:=[6]) rfl (by simp) (by kernel_rfl) ?_
 repeat'(with_reducible first|(refine aqd (hK _ _ ?_);clear hK K)|((fail_if_success(refine aql 1 ?_));(fail_if_success(refine(?_:AWP _ _ _ (Code.region 1 _ _) _ _ _)));refine vr [] fun K hK=>?_)|(refine aqa fun K' hK'=>?_;simp;repeat'(first|(apply hK';clear hK' K')|intro hg|fail))|fail)
 refine bqu mixed [] [7,8,9,10] [0,1,2,3,4,5,7,8,6,9,10,11] (by kernel_rfl) (fun K hK=> ?_)
 simp only [List.filterMap_cons,List.filterMap_nil,List.getElem?_cons_succ,List.getElem?_cons_zero]
 repeat'(with_reducible first|(refine sp (hK _ _ ?_);clear hK K)|(refine aqn fun K' hK'=>?_;simp[boxes,Blk.isArr,aqg.refl];repeat'(first|(apply hK';clear hK' K')|(refine Ret.use c0 ?_;try simp[boxes,Blk.isArr,aqg.refl])|(refine Ret.use c1 ?_;try simp[boxes,Blk.isArr,aqg.refl])|(refine Ret.use c2 ?_;try simp[boxes,Blk.isArr,aqg.refl])|fail))|apply aqc|refine sp ?_|fail)
 exact ⟨by simp,aqh (by assumption)⟩
noncomputable def bqj (m:Mtd) (S:FS):List Int:=(upto m.n.toNat).filter fun x=> !decide (x∈S)&&decide (Rk.Ind (rkM m) (insert x S))
theorem lq5 {p:Int->Bool} {x:Int}:[x].filter p=if p x=true then [x] else []:=by
 cases h:p x<;>simp [h]
noncomputable def mayS (a b:Mtd) (s:List Int):Bool:=decide (a.n=b.n)&&indT a s&&indT b s
theorem indT_iff {m:Mtd} (hN:Nice m) {s:List Int}:indT m s=true↔OkT m/\∃ S:FS,s=S.l/\S⊆FS.upTo m.n.toNat/\Rk.Ind (rkM m) S:=by
 constructor
 ·intro h
  rw [indT,Bool.and_eq_true] at h
  obtain ⟨hO,S,rfl,hS⟩:=(dqn hN).1 h.1
  exact ⟨hO,S,rfl,hS,by have:=h.2;rw [cqn] at this;simpa using this⟩
 ·rintro ⟨hO,S,rfl,hS,hI⟩
  rw [fqa hO hS];simpa using hI
theorem MayS_ret {x y:Mtd} (hx:OkT x) (hy:OkT y) {s:List Int} (hs:aqz s):Ret Tryz.prog w0 23 [mtA x,mtA y,ints s] (B (mayS x y s)):=by
 have c1:=gqg (w0:=w0) hx hs
 have c2:=gqg (w0:=w0) hy hs
 rw [mayS]
 generalize indT x s=v1 at *
 generalize indT y s=v2 at *
 intro H
 obtain ⟨t,n,a,b,l,xs⟩:=x
 obtain ⟨t',n',a',b',l',xs'⟩:=y
 have e1:(Mtd.mk t n a b l xs).n=n:=rfl
 have e2:(Mtd.mk t' n' a' b' l' xs').n=n':=rfl
 rw [e1,e2]
 simp only [mtA,mtC] at c1 c2 ⊢
 refine aqf Tryz.func23 rfl Tryz.ntmps23 (ts:=[6]) rfl (by simp) (by kernel_rfl) ?_
 repeat'(with_reducible first|(refine aqd (hK _ _ ?_);clear hK K)|((fail_if_success(refine aql 1 ?_));(fail_if_success(refine(?_:AWP _ _ _ (Code.region 1 _ _) _ _ _)));refine vr [] fun K hK=>?_)|(refine aqa fun K' hK'=>?_;simp;repeat'(first|(apply hK';clear hK' K')|intro hg|fail))|fail)
 rename_i p hp q
 have hqp:q≠p:=by rintro rfl;simp at hg
 have hq:H q=none:=by rw [if_neg hqp] at hg;exact hg
 have hpq:p≠q:=Ne.symm hqp
 clear hg
 have hsub:=((Sub.refl H).upd hp (some (.box [I t,I n,I a,I b,rows l,.sl (mtCs xs) xs.length]))).upd hq (some (.box [I t',I n',I a',I b',rows l',.sl (mtCs xs') xs'.length]))
 by_cases g:n=n'
 ·have g':=eq_true g
  cases v1 with
  | true=>
   repeat'(with_reducible first|(refine aqd (hK _ _ ?_);clear hK K)|refine vr [] fun K hK=>?_|((first|refine aqa fun K' hK'=>?_|(apply aqk;refine aqe rfl fun K' hK'=>?_));simp[hqp,hpq,g'];repeat'(first|(apply hK';clear hK' K')|refine Ret.use c1 ?_|refine Ret.use c2 ?_|fail))|apply aqc|refine sp ?_|fail)
   exact ⟨by simp [g],hsub⟩
  | false=>
   repeat'(with_reducible first|(refine aqd (hK _ _ ?_);clear hK K)|refine vr [] fun K hK=>?_|((first|refine aqa fun K' hK'=>?_|(apply aqk;refine aqe rfl fun K' hK'=>?_));simp[hqp,hpq,g'];repeat'(first|(apply hK';clear hK' K')|refine Ret.use c1 ?_|fail))|apply aqc|refine sp ?_|fail)
   exact ⟨by simp [g],hsub⟩
 ·repeat'(with_reducible first|(refine aqd (hK _ _ ?_);clear hK K)|refine vr [] fun K hK=>?_|((first|refine aqa fun K' hK'=>?_|(apply aqk;refine aqe rfl fun K' hK'=>?_));simp[hqp,hpq,g];repeat'(first|(apply hK';clear hK' K')|fail))|apply aqc|refine sp ?_|fail)
  exact ⟨by simp [g],hsub⟩
def turnR (s path:List Int):List Int:=if aqw (-1) s&&decide ((cq3 path).length=path.length) then (FS.ofList s \ FS.ofList path∪(FS.ofList path \ FS.ofList s)).l else []
noncomputable def stB (m:Mtd) (S:FS) (x y:Int):Bool:=decide (y∈S)&& !decide (x∈S)&&decide (Rk.Ind (rkM m) (insert x (S.erase y)))
noncomputable def adjS (a b:Mtd) (S:FS):List (List Int):=(upto a.n.toNat).map fun p=>(upto a.n.toNat).filter fun q=>stB a S q p||stB b S p q
end Go.Am
namespace Go.Am
set_option linter.unusedVariables false
set_option linter.unusedSimpArgs false
open FS
namespace FS
def sum (w:Int->Int) (s:FS):Int:=(s.l.map w).sum
theorem sum_perm {w:Int->Int}:∀ (a b:List Int),a.Nodup->b.Nodup->(∀ x,x∈a↔x∈b)->(a.map w).sum=(b.map w).sum:=by
 intro a
 induction a with
 | nil=>
  intro b _ _ h
  cases b with
  | nil=>rfl
  | cons y b=>have:=(h y).2 (by simp);simp at this
 | cons x a ih=>
  intro b ha hb h
  have hx:x∈b:=(h x).1 (by simp)
  have hn:=List.nodup_cons.1 ha
  have h2:=ih (b.erase x) hn.2 (hb.erase x) (fun y=>by
   rw [hb.mem_erase_iff,<-h y,List.mem_cons]
   constructor
   ·intro k;exact ⟨fun e=>hn.1 (e▸k),.inr k⟩
   ·rintro ⟨k,k' | k'⟩
    ·exact absurd k' k
    ·exact k')
  have h3:(b.map w).sum=w x+((b.erase x).map w).sum:=by
   have hp:=List.perm_cons_erase hx
   have:∀ {l l':List Int},l.Perm l'->(l.map w).sum=(l'.map w).sum:=by
    intro l l' hp
    induction hp with
    | nil=>rfl
    | cons z _ ih=>simp [ih]
    | swap z y l=>simp only [List.map_cons,List.sum_cons];omega
    | trans _ _ ih1 ih2=>rw [ih1,ih2]
   rw [this hp];simp
  rw [h3,List.map_cons,List.sum_cons,h2]
theorem sum_list {w:Int->Int} {l:List Int} {s:FS} (hl:l.Nodup) (h:∀ x,x∈s↔x∈l):s.sum w=(l.map w).sum:=sum_perm _ _ s.nodup hl h
@[simp] theorem sum_empty (w:Int->Int):(∅ :FS).sum w=0:=rfl
theorem cqc {w:Int->Int} {x:Int} {s:FS} (h:x∉s):(insert x s:FS).sum w=s.sum w+w x:=by
 rw [sum_list (l:=x::s.l) (List.nodup_cons.2 ⟨h,s.nodup⟩) (fun y=>by rw [mem_insert,List.mem_cons];rfl),List.map_cons,List.sum_cons]
 show w x+s.sum w=_
 omega
theorem sum_erase {w:Int->Int} {x:Int} {s:FS} (h:x∈s):(s.erase x).sum w+w x=s.sum w:=by
 have:=cqc (w:=w) (x:=x) (s:=s.erase x) (by grind)
 rw [eqa h] at this
 omega
theorem jq6 {w v:Int->Int} {s:FS} (h:∀ x,x∈s->w x=v x):s.sum w=s.sum v:=by
 induction s using FS.ind with
 | h0=>rfl
 | h1 x s hx ih=>rw [cqc hx,cqc hx,ih fun y hy=>h y (by grind),h x (by grind)]
theorem sum_add {w v:Int->Int} {s:FS}:s.sum (fun x=>w x+v x)=s.sum w+s.sum v:=by
 induction s using FS.ind with
 | h0=>rfl
 | h1 x s hx ih=>rw [cqc hx,cqc hx,cqc hx,ih];omega
end FS
namespace Rk
variable {r:FS->Nat}
def turn (s:FS) (ps:List (Int×Int)):FS:=(s \ ofList (ps.map (·.1)))∪ofList (ps.map (·.2))
theorem bqs {s:FS} {ps:List (Int×Int)} {x:Int}:x∈turn s ps↔(x∈s/\x∉ps.map (·.1))\/x∈ps.map (·.2):=by
 rw [turn,mem_union,mem_sdiff,mem_ofList,mem_ofList]
def Exch (r:FS->Nat) (s:FS) (y x:Int):Prop:=r (insert x (s.erase y))≠r (s.erase y)
instance (s:FS) (y x:Int):Decidable (Exch r s y x):=inferInstanceAs (Decidable (_≠_))
structure Swaps (r:FS->Nat) (s:FS) (ps:List (Int×Int)):Prop where
 out:∀ p∈ps,p.1∈s/\p.2∉s/\r (insert p.2 s)=r s/\Exch r s p.1 p.2
 nd1:(ps.map (·.1)).Nodup
 nd2:(ps.map (·.2)).Nodup
 ord:ps.Pairwise fun p q=>¬Exch r s p.1 q.2
theorem turn_ind (h:Rk r) {s:FS} (hs:Ind r s):∀ ps,Swaps r s ps->Ind r (turn s ps)/\(turn s ps).card=s.card/\∀ x,x∈turn s ps->r (insert x s)=r s:=by
 intro ps
 refine eq3 (p:=fun ps=>Swaps r s ps->Ind r (turn s ps)/\(turn s ps).card=s.card/\∀ x,x∈turn s ps->r (insert x s)=r s) ?_ ?_ ps
 ·intro _
  rw [show turn s []=s from FS.ext fun x=>by simp [bqs]]
  exact ⟨hs,rfl,fun x hx=>by rw [cqj hx]⟩
 ·rintro ps ⟨y,x⟩ ih H
  have H1:Swaps r s ps:=⟨fun p hp=>H.out p (by simp [hp]),by have:=H.nd1;rw [List.map_append,List.nodup_append] at this;exact this.1,by have:=H.nd2;rw [List.map_append,List.nodup_append] at this;exact this.1,(List.pairwise_append.1 H.ord).1⟩
  obtain ⟨i1,i2,i3⟩:=ih H1
  obtain ⟨hy,hx,hc,he⟩:=H.out (y,x) (by simp)
  have hno:∀ p∈ps,¬Exch r s p.1 x:=fun p hp=>(List.pairwise_append.1 H.ord).2.2 p hp (y,x) (by simp)
  have hyn:y∉ps.map (·.1):=by
   have:=H.nd1
   rw [List.map_append,List.nodup_append] at this
   intro k
   exact this.2.2 y k y (by simp) rfl
  have hxn:x∉ps.map (·.2):=by
   have:=H.nd2
   rw [List.map_append,List.nodup_append] at this
   intro k
   exact this.2.2 x k x (by simp) rfl
  have key:∀ l:List (Int×Int),(∀ p∈l,p.1∈s/\¬Exch r s p.1 x)->r (insert x (s \ ofList (l.map (·.1))))=r (s \ ofList (l.map (·.1))):=by
   intro l
   induction l with
   | nil=>intro _;rw [show s \ ofList (([]:List (Int×Int)).map (·.1))=s from FS.ext fun z=>by simp];exact hc
   | cons p l ih2=>
    intro hl
    have e1:=ih2 fun q hq=>hl q (by simp [hq])
    have e2:r (insert x (s.erase p.1))=r (s.erase p.1):=Classical.byContradiction (hl p (by simp)).2
    have e3:=h.cl_inter hs (a:=s \ ofList (l.map (·.1))) (b:=s.erase p.1) (fun z hz=>by grind) (fun z hz=>by grind) e1 e2
    rwa [show (s \ ofList (l.map (·.1)))∩s.erase p.1=s \ ofList ((p::l).map (·.1)) from FS.ext fun z=>by simp;grind] at e3
  have hD:=key ps fun p hp=>⟨(H1.out p hp).1,hno p hp⟩
  have hDT:s \ ofList (ps.map (·.1))⊆turn s ps:=fun z hz=>by rw [bqs];rw [mem_sdiff,mem_ofList] at hz;exact .inl hz
  have hyT:y∈turn s ps:=by rw [bqs];exact .inl ⟨hy,hyn⟩
  have hxT:x∉turn s ps:=by rw [bqs];rintro (k | k);exact hx k.1;exact hxn k
  have hnew:r (insert x ((turn s ps).erase y))≠r ((turn s ps).erase y):=by
   intro k
   have e1:=h.cl_inter i1 (a:=s \ ofList (ps.map (·.1))) (b:=(turn s ps).erase y) hDT (fun z hz=>by grind) hD k
   have e2:=h.cl_mono (b:=s.erase y) (fun z hz=>by grind) e1
   exact he e2
  have heq:turn s (ps++[(y,x)])=insert x ((turn s ps).erase y):=FS.ext fun z=>by
   have:=fun p hp=>(H1.out p hp).2.1
   rw [mem_insert,mem_erase,bqs,bqs]
   simp only [List.map_append,List.map_cons,List.map_nil,List.mem_append,List.mem_singleton,List.mem_cons,List.not_mem_nil,or_false]
   constructor
   ·rintro (⟨a,b⟩ | a | a)
    ·exact .inr ⟨.inl ⟨a,fun k=>b (.inl k)⟩,fun k=>b (.inr k)⟩
    ·refine .inr ⟨.inr a,fun k=> ?_⟩
     obtain ⟨p,hp,rfl⟩:=List.mem_map.1 a
     exact this p hp (k▸hy)
    ·exact .inl a
   ·rintro (a | ⟨⟨a,b⟩ | a,c⟩)
    ·exact .inr (.inr a)
    ·exact .inl ⟨a,fun k=>k.elim b c⟩
    ·exact .inr (.inl a)
  rw [heq]
  refine ⟨(h.swap_ind i1 hyT hxT).2 hnew,?_,fun z hz=> ?_⟩
  ·rw [card_insert (by grind)]
   have:=card_erase hyT
   omega
  ·rw [mem_insert,mem_erase] at hz
   rcases hz with rfl | hz
   ·exact hc
   ·exact i3 z hz.1
def insP (W:Int×Int->Int) (p:Int×Int):List (Int×Int)->List (Int×Int)
 | []=>[p]
 | q::l=>if W p<=W q then p::q::l else q::insP W p l
def sortP (W:Int×Int->Int) (ps:List (Int×Int)):List (Int×Int):=ps.foldr (insP W) []
theorem perm_insP (W:Int×Int->Int) (p:Int×Int) (l:List (Int×Int)):(insP W p l).Perm (p::l):=by
 induction l with
 | nil=>exact .refl _
 | cons q l ih=>
  rw [insP]
  split
  ·exact .refl _
  ·exact (ih.cons q).trans (.swap p q l)
theorem lqk (W:Int×Int->Int) (ps:List (Int×Int)):(sortP W ps).Perm ps:=by
 induction ps with
 | nil=>exact .refl _
 | cons p ps ih=>exact (perm_insP W p _).trans (ih.cons p)
theorem sortP_ord {W:Int×Int->Int} {P:Int×Int->Int×Int->Prop}:∀ {ps:List (Int×Int)},ps.Pairwise P->(sortP W ps).Pairwise fun p q=>W p<W q\/W p=W q/\P p q:=by
 intro ps
 induction ps with
 | nil=>intro _;exact .nil
 | cons p ps ih=>
  intro h
  rw [List.pairwise_cons] at h
  have hs:=ih h.2
  have hp:∀ q∈sortP W ps,P p q:=fun q hq=>h.1 q ((lqk W ps).mem_iff.1 hq)
  show (insP W p (sortP W ps)).Pairwise _
  generalize sortP W ps=l at hs hp
  clear ih h
  induction l with
  | nil=>exact List.pairwise_singleton _ _
  | cons q l ih2=>
   rw [insP]
   rw [List.pairwise_cons] at hs
   split
   ·rename_i hle
    rw [List.pairwise_cons]
    refine ⟨fun z hz=> ?_,List.pairwise_cons.2 hs⟩
    rcases List.mem_cons.1 hz with rfl | hz'
    ·have:=hp z (by simp)
     by_cases e:W p=W z
     ·exact .inr ⟨e,this⟩
     ·exact .inl (by omega)
    ·have h1:=hs.1 z hz'
     have h2:=hp z (by simp [hz'])
     by_cases e:W p=W z
     ·exact .inr ⟨e,h2⟩
     ·rcases h1 with h1 | h1<;>exact .inl (by omega)
   ·rename_i hle
    rw [List.pairwise_cons]
    refine ⟨fun z hz=> ?_,ih2 hs.2 fun z hz=>hp z (by simp [hz])⟩
    rcases List.mem_cons.1 ((perm_insP W p l).mem_iff.1 hz) with rfl | hz'
    ·exact .inl (by omega)
    ·exact hs.1 z hz'
def Full (r:FS->Nat) (s:FS):Prop:=∀ x,r (insert x s)=r s
def Opt (r:FS->Nat) (w:Int->Int) (s:FS):Prop:=∀ x y,y∈s->x∉s->Exch r s y x->w x<=w y
structure Tight (r:FS->Nat) (w:Int->Int) (s:FS) (ps:List (Int×Int)):Prop where
 out:∀ p∈ps,p.1∈s/\p.2∉s/\Exch r s p.1 p.2/\w p.2=w p.1
 nd1:(ps.map (·.1)).Nodup
 nd2:(ps.map (·.2)).Nodup
 ord:ps.Pairwise fun p q=>¬(Exch r s p.1 q.2/\w q.2=w p.1)
theorem turn_perm {s:FS} {ps qs:List (Int×Int)} (h:ps.Perm qs):turn s ps=turn s qs:=FS.ext fun x=>by
 rw [bqs,bqs,(h.map (·.1)).mem_iff,(h.map (·.2)).mem_iff]
theorem turn_tight (h:Rk r) {w:Int->Int} {s:FS} {ps:List (Int×Int)} (hs:Ind r s) (hf:Full r s) (ho:Opt r w s) (H:Tight r w s ps):Ind r (turn s ps)/\(turn s ps).card=s.card:=by
 have hp:=lqk (fun p=>w p.1) ps
 have hq:Swaps r s (sortP (fun p=>w p.1) ps):=by
  refine ⟨fun p k=> ?_,(hp.map (·.1)).nodup_iff.2 H.nd1,(hp.map (·.2)).nodup_iff.2 H.nd2,?_⟩
  ·obtain ⟨a,b,c,d⟩:=H.out p (hp.mem_iff.1 k)
   exact ⟨a,b,hf _,c⟩
  ·refine (sortP_ord (W:=fun p=>w p.1) H.ord).imp_of_mem fun {p q} k1 k2 h12 he=> ?_
   obtain ⟨a,b,c,d⟩:=H.out p (hp.mem_iff.1 k1)
   obtain ⟨a',b',c',d'⟩:=H.out q (hp.mem_iff.1 k2)
   have:=ho q.2 p.1 a b' he
   rcases h12 with h12 | ⟨h12,h13⟩
   ·omega
   ·exact h13 ⟨he,by omega⟩
 have:=h.turn_ind hs _ hq
 rw [turn_perm hp] at this
 exact ⟨this.1,this.2.1⟩
theorem turn_sum {w:Int->Int} {s:FS}:∀ {ps:List (Int×Int)},(∀ p∈ps,p.1∈s/\p.2∉s/\w p.2=w p.1)->(ps.map (·.1)).Nodup->(ps.map (·.2)).Nodup->(turn s ps).sum w=s.sum w:=by
 intro ps
 induction ps with
 | nil=>intro _ _ _;rw [show turn s []=s from FS.ext fun x=>by simp [bqs]]
 | cons p ps ih=>
  intro h h1 h2
  rw [List.map_cons,List.nodup_cons] at h1 h2
  obtain ⟨a,b,c⟩:=h p (by simp)
  have e:=ih (fun q hq=>h q (by simp [hq])) h1.2 h2.2
  have hall:=fun q hq=>(h q (List.mem_cons_of_mem p hq)).2.1
  have hin:p.1∈turn s ps:=by rw [bqs];exact .inl ⟨a,h1.1⟩
  have hno:p.2∉turn s ps:=by rw [bqs];rintro (k | k);exact b k.1;exact h2.1 k
  have heq:turn s (p::ps)=insert p.2 ((turn s ps).erase p.1):=FS.ext fun z=>by
   rw [mem_insert,mem_erase,bqs,bqs]
   simp only [List.map_cons,List.mem_cons]
   constructor
   ·rintro (⟨k1,k2⟩ | k1 | k1)
    ·exact .inr ⟨.inl ⟨k1,fun k=>k2 (.inr k)⟩,fun k=>k2 (.inl k)⟩
    ·exact .inl k1
    ·refine .inr ⟨.inr k1,fun k=> ?_⟩
     obtain ⟨q,hq,rfl⟩:=List.mem_map.1 k1
     exact hall q hq (k▸a)
   ·rintro (k | ⟨⟨k1,k2⟩ | k1,k3⟩)
    ·exact .inr (.inl k)
    ·exact .inl ⟨k1,fun k=>k.elim k3 k2⟩
    ·exact .inr (.inr k1)
  rw [heq,cqc (by grind)]
  have:=sum_erase (w:=w) hin
  omega
theorem opt_best (h:Rk r) {w:Int->Int} {s:FS} (hs:Ind r s) (hf:Full r s) (ho:Opt r w s):∀ n (t:FS),(t \ s).card=n->Ind r t->t.card=s.card->t.sum w<=s.sum w:=by
 intro n
 induction n with
 | zero=>
  intro t h0 ht hc
  have:t=s:=card_sub_eq (fun x hx=>Classical.byContradiction fun k=>by
   have h1:=fq7 h0
   have:x∈t \ s:=by grind
   rw [h1] at this;simp at this) (by omega)
  rw [this];exact Int.le_refl _
 | succ n ih=>
  intro t h0 ht hc
  obtain ⟨x,hx⟩:=mq1 (s:=t \ s) (fun e=>by rw [e] at h0;simp at h0)
  rw [mem_sdiff] at hx
  have hfund:=h.cl_fund hs (hf x)
  obtain ⟨y,hy,hyt⟩:∃ y,y∈Fund r s x/\r (insert y (t.erase x))≠r (t.erase x):=by
   apply Classical.byContradiction
   intro hn
   have hall:∀ y,y∈Fund r s x->r (insert y (t.erase x))=r (t.erase x):=fun y hy=>Classical.byContradiction fun k=>hn ⟨y,hy,k⟩
   have:=h.cl_trans hall hfund
   have:=h.ind_out ht (t:=t.erase x) (fun z hz=>by grind) hx.1 this
   grind
  rw [mem_fund] at hy
  have hyn:y∉t:=fun k=>hyt (by
   have:y∈t.erase x:=by
    rw [mem_erase]
    exact ⟨k,fun e=>hx.2 (e▸hy.1)⟩
   rw [cqj this])
  have hw:=ho x y hy.1 hx.2 hy.2
  have ht':=(h.swap_ind ht hx.1 hyn).2 hyt
  have hc':(insert y (t.erase x):FS).card=t.card:=by
   rw [card_insert (by grind)]
   have:=card_erase hx.1
   omega
  have hd:(insert y (t.erase x):FS) \ s=(t \ s).erase x:=FS.ext fun z=>by grind
  have:=ih (insert y (t.erase x)) (by
   rw [hd]
   have:=card_erase (x:=x) (s:=t \ s) (by grind)
   omega) ht' (by omega)
  rw [cqc (by grind)] at this
  have:=sum_erase (w:=w) hx.1
  omega
end Rk
end Go.Am
namespace Go.Am
set_option linter.unusedVariables false
set_option linter.unusedSimpArgs false
open FS
variable {r r1 r2:FS->Nat}
theorem stuck (h1:Rk r1) (h2:Rk r2) {S E W:FS} (i1:Rk.Ind r1 S) (i2:Rk.Ind r2 S) (hSE:S⊆E) (hWE:W⊆E)
  (out:∀ x,x∈E->x∉W->r1 (insert x (S \ W))=r1 (S \ W)) (inn:∀ x,x∈W->r2 (insert x (S∩W))=r2 (S∩W)):r1 (E \ W)+r2 W=S.card:=by
 have e1:r1 (E \ W)=r1 (S \ W):=h1.cl_of (fun x hx=>by have:=hSE x;grind) fun x hx=>out x (by grind) (by grind)
 have e2:r2 W=r2 (S∩W):=h2.cl_of (fun x hx=>by grind) fun x hx=>inn x hx
 have a1:Rk.Ind r1 (S \ W):=h1.ind_sub i1 fun x hx=>by grind
 have a2:Rk.Ind r2 (S∩W):=h2.ind_sub i2 fun x hx=>by grind
 have:=FS.card_sdiff S W
 unfold Rk.Ind at a1 a2
 omega
theorem stuck_arcs (h1:Rk r1) (h2:Rk r2) {S E W:FS} (i1:Rk.Ind r1 S) (i2:Rk.Ind r2 S) (hSE:S⊆E) (hWE:W⊆E)
  (hfrom:∀ x,x∈E->x∉S->Rk.Ind r1 (insert x S)->x∈W) (hto:∀ x,x∈W->x∉S->¬Rk.Ind r2 (insert x S))
  (arc1:∀ y x,y∈W->y∈S->x∈E->x∉S->Rk.Ind r1 (insert x (S.erase y))->x∈W)
  (arc2:∀ x y,x∈W->x∉S->y∈S->Rk.Ind r2 (insert x (S.erase y))->y∈W):r1 (E \ W)+r2 W=S.card:=by
 refine stuck h1 h2 i1 i2 hSE hWE (fun x hx hxW=> ?_) fun x hxW=> ?_
 ·by_cases hxS:x∈S
  ·rw [cqj (by grind)]
  ·have hr:r1 (insert x S)=r1 S:=by
    by_cases e:r1 (insert x S)=r1 S
    ·exact e
    ·exact absurd (hfrom x hx hxS ((h1.ind_insert_iff i1 hxS).2 e)) hxW
   refine h1.cl_mono (a:=Rk.Fund r1 S x) (fun y hy=> ?_) (h1.cl_fund i1 hr)
   obtain ⟨y1,y2⟩:=Rk.mem_fund.1 hy
   rw [FS.mem_sdiff]
   exact ⟨y1,fun hyW=>hxW (arc1 y x hyW y1 hx hxS ((h1.swap_ind i1 y1 hxS).2 y2))⟩
 ·by_cases hxS:x∈S
  ·rw [cqj (by grind)]
  ·have hr:r2 (insert x S)=r2 S:=by
    by_cases e:r2 (insert x S)=r2 S
    ·exact e
    ·exact absurd ((h2.ind_insert_iff i2 hxS).2 e) (hto x hxW hxS)
   refine h2.cl_mono (a:=Rk.Fund r2 S x) (fun y hy=> ?_) (h2.cl_fund i2 hr)
   obtain ⟨y1,y2⟩:=Rk.mem_fund.1 hy
   rw [FS.mem_inter]
   exact ⟨y1,arc2 x y hxW hxS y1 ((h2.swap_ind i2 y1 hxS).2 y2)⟩
end Go.Am
namespace Go.Am
set_option linter.unusedVariables false
set_option linter.unusedSimpArgs false
open FS
namespace Rk
variable {r:FS->Nat}
def ext (r:FS->Nat) (e:Int) (k:Nat):FS->Nat:=fun s=>min (r (s.erase e)+(s∩{e}:FS).card) (k+1)
theorem im_erase (e:Int):Im (fun s=>s.erase e):=by
 refine ⟨FS.ext fun x=>by grind,fun x=> ?_⟩
 by_cases hx:x=e
 ·exact .inl fun s=>FS.ext fun y=>by grind
 ·exact .inr ⟨x,fun s=>FS.ext fun y=>by grind⟩
theorem ext_rk (h:Rk r) (e:Int) (k:Nat):Rk (ext r e k):=by
 refine Rk.trunc (r:=fun s=>r (s.erase e)+(s∩{e}:FS).card) (Rk.add (h.pull (im_erase e)) (free.cut {e}) fun x=> ?_) (k+1)
 by_cases hx:x=e
 ·refine .inl fun s=> ?_
  rw [show (insert x s:FS).erase e=s.erase e from FS.ext fun y=>by grind]
 ·refine .inr fun s=> ?_
  rw [show (insert x s:FS)∩{e}=s∩{e} from FS.ext fun y=>by grind]
theorem ext_out {e:Int} {k:Nat} {T:FS} (he:e∉T):ext r e k T=min (r T) (k+1):=by
 unfold ext
 rw [show T.erase e=T from FS.ext fun y=>by grind,show T∩{e}= ∅ from FS.ext fun y=>by grind]
 simp
theorem ext_in {e:Int} {k:Nat} {T:FS} (he:e∉T):ext r e k (insert e T)=min (r T+1) (k+1):=by
 unfold ext
 rw [show (insert e T:FS).erase e=T from FS.ext fun y=>by grind,show (insert e T:FS)∩{e}={e} from FS.ext fun y=>by grind]
 simp
theorem ext_ind_in (h:Rk r) {e:Int} {k:Nat} {T:FS} (he:e∉T):Ind (ext r e k) (insert e T)↔Ind r T/\T.card<=k:=by
 have:=h.le_card T
 unfold Ind
 rw [ext_in he,card_insert he]
 omega
theorem ext_ind_out (h:Rk r) {e:Int} {k:Nat} {T:FS} (he:e∉T):Ind (ext r e k) T↔Ind r T/\T.card<=k+1:=by
 have:=h.le_card T
 unfold Ind
 rw [ext_out he]
 omega
theorem fresh_of (l:List Int):∃ e:Int,e∉l:=by
 have h:∀ l:List Int,∃ b:Int,∀ x∈l,x<b:=by
  intro l
  induction l with
  | nil=>exact ⟨0,by simp⟩
  | cons a l ih=>
   obtain ⟨b,hb⟩:=ih
   refine ⟨max b (a+1),fun x hx=> ?_⟩
   rcases List.mem_cons.1 hx with rfl | hx
   ·omega
   ·have:=hb x hx;omega
 obtain ⟨b,hb⟩:=h l
 exact ⟨b,fun k=>by have:=hb b k;omega⟩
structure Heavy (r:FS->Nat) (w:Int->Int) (W:Int) (S:FS):Prop where
 ind:Ind r S
 swap:∀ x y,y∈S->x∉S->Ind r (insert x (S.erase y))->w x<=w y
 top:∀ x,x∉S->Ind r (insert x S)->w x<=W
section
variable {w:Int->Int} {W:Int} {S:FS} {e:Int}
def wext (w:Int->Int) (W e:Int):Int->Int:=fun z=>if z=e then W else w z
theorem wext_e:wext w W e e=W:=by simp [wext]
theorem dqv {z:Int} (h:z≠e):wext w W e z=w z:=by simp [wext,h]
theorem heavy_ext (h:Rk r) (H:Heavy r w W S) (he:e∉S):Ind (ext r e S.card) (insert e S)/\Full (ext r e S.card) (insert e S)/\Opt (ext r e S.card) (wext w W e) (insert e S):=by
 have hR:=h.ext_rk e S.card
 have hI:Ind (ext r e S.card) (insert e S):=(h.ext_ind_in he).2 ⟨H.ind,Nat.le_refl _⟩
 refine ⟨hI,fun x=> ?_,fun x y hy hx hE=> ?_⟩
 ·have h1:=(hR.one x (insert e S)).1
  have h2:ext r e S.card (insert x (insert e S))<=S.card+1:=by unfold ext;omega
  have h3:=hI
  unfold Ind at h3
  rw [card_insert he] at h3
  omega
 ·have hxe:x≠e:=fun k=>hx (by grind)
  have hxS:x∉S:=fun k=>hx (by grind)
  have h1:=(hR.swap_ind hI hy hx).2 hE
  rw [dqv hxe]
  by_cases hye:y=e
  ·subst hye
   rw [wext_e]
   rw [show (insert y S:FS).erase y=S from FS.ext fun z=>by grind] at h1
   exact H.top x hxS ((h.ext_ind_out (by grind)).1 h1).1
  ·rw [dqv hye]
   have hyS:y∈S:=by grind
   rw [show (insert x ((insert e S:FS).erase y):FS)=insert e (insert x (S.erase y)) from FS.ext fun z=>by grind] at h1
   exact H.swap x y hyS hxS ((h.ext_ind_in (by grind)).1 h1).1
theorem aug_one (h:Rk r) (H:Heavy r w W S) {x0:Int} (hx0:x0∉S) (hI0:Ind r (insert x0 S)) (hw0:w x0=W) {ps:List (Int×Int)}
  (out:∀ p∈ps,p.1∈S/\p.2∉S/\Ind r (insert p.2 (S.erase p.1))/\w p.2=w p.1) (nd1:(ps.map (·.1)).Nodup) (nd2:(x0::ps.map (·.2)).Nodup)
  (ord:ps.Pairwise fun p q=>¬(Ind r (insert q.2 (S.erase p.1))/\w q.2=w p.1)) (no:∀ p∈ps,¬(Ind r (insert p.2 S)/\w p.2=W)):
  Ind r (insert x0 (turn S ps))/\(insert x0 (turn S ps):FS).card=S.card+1/\(insert x0 (turn S ps):FS).sum w=S.sum w+W/\
   ∀ t:FS,Ind r t->t.card=S.card+1->t.sum w<=S.sum w+W:=by
 have main:∀ t:FS,(Ind r (insert x0 (turn S ps))/\(insert x0 (turn S ps):FS).card=S.card+1/\(insert x0 (turn S ps):FS).sum w=S.sum w+W)/\(Ind r t->t.card=S.card+1->t.sum w<=S.sum w+W):=by
  intro t
  obtain ⟨e,he⟩:=fresh_of (S.l++t.l++x0::(ps.map (·.1)++ps.map (·.2)))
  simp only [List.mem_append,List.mem_cons,not_or] at he
  obtain ⟨⟨heS,het⟩,hex,he1,he2⟩:=he
  have heS:e∉S:=heS
  have het:e∉t:=het
  obtain ⟨hI,hF,hO⟩:=heavy_ext h H heS
  have hR:=h.ext_rk e S.card
  have hin:∀ p∈ps,p.1≠e/\p.2≠e:=fun p hp=>⟨fun k=>he1 (k▸List.mem_map_of_mem hp),fun k=>he2 (k▸List.mem_map_of_mem hp)⟩
  have ex:∀ y x,y∈S->x∉S->x≠e->(Exch (ext r e S.card) (insert e S) y x↔Ind r (insert x (S.erase y))):=fun y x hy hx hxe=>by
   have hye:y≠e:=fun k=>heS (k▸hy)
   refine Iff.trans (hR.swap_ind hI (by grind) (by grind)).symm ?_
   rw [show (insert x ((insert e S:FS).erase y):FS)=insert e (insert x (S.erase y)) from FS.ext fun z=>by grind,h.ext_ind_in (by grind)]
   have h1:=card_insert (x:=x) (s:=S.erase y) (by grind)
   have h2:=card_erase hy
   constructor
   ·exact fun k=>k.1
   ·exact fun k=>⟨k,by omega⟩
  have exe:∀ x,x∉S->x≠e->(Exch (ext r e S.card) (insert e S) e x↔Ind r (insert x S)):=fun x hx hxe=>by
   refine Iff.trans (hR.swap_ind hI (by grind) (by grind)).symm ?_
   rw [show (insert e S:FS).erase e=S from FS.ext fun z=>by grind,h.ext_ind_out (by grind)]
   have h1:=card_insert hx
   constructor
   ·exact fun k=>k.1
   ·exact fun k=>⟨k,by omega⟩
  have hT:Tight (ext r e S.card) (wext w W e) (insert e S) ((e,x0)::ps):=by
   refine ⟨fun p hp=> ?_,?_,?_,?_⟩
   ·rcases List.mem_cons.1 hp with rfl | hp
    ·refine ⟨by grind,by grind,(exe x0 hx0 (Ne.symm hex)).2 hI0,?_⟩
     simp only
     rw [wext_e,dqv (Ne.symm hex)];exact hw0
    ·obtain ⟨a,b,c,d⟩:=out p hp
     obtain ⟨n1,n2⟩:=hin p hp
     refine ⟨by grind,by grind,(ex _ _ a b n2).2 c,?_⟩
     rw [dqv n1,dqv n2];exact d
   ·simp only [List.map_cons,List.nodup_cons]
    exact ⟨he1,nd1⟩
   ·exact nd2
   ·rw [List.pairwise_cons]
    constructor
    ·rintro q hq ⟨k1,k2⟩
     obtain ⟨a,b,c,d⟩:=out q hq
     obtain ⟨n1,n2⟩:=hin q hq
     simp only at k1 k2
     rw [wext_e,dqv n2] at k2
     exact no q hq ⟨(exe _ b n2).1 k1,k2⟩
    ·refine ord.imp_of_mem fun {p q} hp hq hn k=> ?_
     obtain ⟨a,b,c,d⟩:=out p hp
     obtain ⟨n1,n2⟩:=hin p hp
     obtain ⟨a',b',c',d'⟩:=out q hq
     obtain ⟨n1',n2'⟩:=hin q hq
     obtain ⟨k1,k2⟩:=k
     rw [dqv n1,dqv n2'] at k2
     exact hn ⟨(ex _ _ a b' n2').1 k1,k2⟩
  have hset:turn (insert e S) ((e,x0)::ps)=insert x0 (turn S ps):=FS.ext fun z=>by
   rw [bqs,mem_insert,mem_insert,bqs]
   simp only [List.map_cons,List.mem_cons]
   constructor
   ·rintro (⟨rfl | k1,k2⟩ | k1 | k1)
    ·exact absurd (Or.inl rfl) k2
    ·exact .inr (.inl ⟨k1,fun k=>k2 (.inr k)⟩)
    ·exact .inl k1
    ·exact .inr (.inr k1)
   ·rintro (k1 | ⟨k1,k2⟩ | k1)
    ·exact .inr (.inl k1)
    ·refine .inl ⟨.inr k1,fun k=> ?_⟩
     rcases k with rfl | k
     ·exact heS k1
     ·exact k2 k
    ·exact .inr (.inr k1)
  obtain ⟨t1,t2⟩:=hR.turn_tight hI hF hO hT
  have t3:=turn_sum (w:=wext w W e) (s:=insert e S) (fun p hp=>by
   obtain ⟨a,b,c,d⟩:=hT.out p hp
   exact ⟨a,b,d⟩) hT.nd1 hT.nd2
  rw [hset] at t1 t2 t3
  have heT:e∉(insert x0 (turn S ps):FS):=by
   rw [mem_insert,bqs]
   rintro (k | ⟨k,_⟩ | k)
   ·exact hex k
   ·exact heS k
   ·exact he2 k
  have s1:(insert e S:FS).sum (wext w W e)=S.sum w+W:=by
   rw [cqc heS,wext_e,jq6 (v:=w) fun x hx=>dqv (e:=e) fun k=>heS (by rw [<-k];exact hx)]
  rw [s1,jq6 (v:=w) fun x hx=>dqv (e:=e) fun k=>heT (by rw [<-k];exact hx)] at t3
  rw [card_insert heS] at t2
  refine ⟨⟨((h.ext_ind_out heT).1 t1).1,t2,t3⟩,fun ht hc=> ?_⟩
  have:=hR.opt_best hI hF hO _ t rfl ((h.ext_ind_out het).2 ⟨ht,by omega⟩) (by rw [card_insert heS];exact hc)
  rw [s1,jq6 (v:=w) fun x hx=>dqv (e:=e) fun k=>het (by rw [<-k];exact hx)] at this
  exact this
 exact ⟨(main S).1.1,(main S).1.2.1,(main S).1.2.2,fun t=>(main t).2⟩
theorem aug_path (h:Rk r) (H:Heavy r w W S) {f:Nat->Int} {m:Nat} (inj:∀ i j,i<=2*m->j<=2*m->f i=f j->i=j)
  (ev:∀ i,i<=m->f (2*i)∉S) (od:∀ i,i<m->f (2*i+1)∈S) (fr:Ind r (insert (f 0) S)/\w (f 0)=W)
  (nofr:∀ i,i<m->¬(Ind r (insert (f (2*i+2)) S)/\w (f (2*i+2))=W))
  (arc:∀ i,i<m->Ind r (insert (f (2*i+2)) (S.erase (f (2*i+1))))/\w (f (2*i+2))=w (f (2*i+1)))
  (nosh:∀ i j,i<j->j<m->¬(Ind r (insert (f (2*j+2)) (S.erase (f (2*i+1))))/\w (f (2*j+2))=w (f (2*i+1)))):
  Ind r (S \ ofList ((List.range (2*m+1)).map f)∪(ofList ((List.range (2*m+1)).map f) \ S))/\(S \ ofList ((List.range (2*m+1)).map f)∪(ofList ((List.range (2*m+1)).map f) \ S)).card=S.card+1/\
   (S \ ofList ((List.range (2*m+1)).map f)∪(ofList ((List.range (2*m+1)).map f) \ S)).sum w=S.sum w+W/\∀ t:FS,Ind r t->t.card=S.card+1->t.sum w<=S.sum w+W:=by
 have nodup_of:∀ g:Nat->Nat,(∀ i,i<m->g i<=2*m)->(∀ i j,i<m->j<m->g i=g j->i=j)->((List.range m).map fun i=>f (g i)).Nodup:=fun g h1 h2=>by
  rw [List.Nodup,List.pairwise_map]
  refine List.nodup_range.imp_of_mem fun {i j} hi hj hne he=>hne ?_
  rw [List.mem_range] at hi hj
  exact h2 i j hi hj (inj _ _ (h1 i hi) (h1 j hj) he)
 have hps:∀ p∈(List.range m).map (fun i=>(f (2*i+1),f (2*i+2))),∃ i,i<m/\p=(f (2*i+1),f (2*i+2)):=fun p hp=>by
  obtain ⟨i,hi,rfl⟩:=List.mem_map.1 hp
  exact ⟨i,List.mem_range.1 hi,rfl⟩
 have h0:f 0∉S:=by simpa using ev 0 (by omega)
 have e2:∀ i,i<m->f (2*i+2)∉S:=fun i hi=>ev (i+1) (by omega)
 have key:=h.aug_one H h0 fr.1 fr.2 (ps:=(List.range m).map fun i=>(f (2*i+1),f (2*i+2)))
  (fun p hp=>by obtain ⟨i,hi,rfl⟩:=hps p hp;exact ⟨od i hi,e2 i hi,arc i hi⟩)
  (by rw [List.map_map];exact nodup_of (fun i=>2*i+1) (fun i hi=>by omega) (fun i j hi hj k=>by omega))
  (by
   rw [List.map_map,List.nodup_cons]
   refine ⟨fun k=> ?_,nodup_of (fun i=>2*i+2) (fun i hi=>by omega) (fun i j hi hj k=>by omega)⟩
   obtain ⟨i,hi,k⟩:=List.mem_map.1 k
   rw [List.mem_range] at hi
   have:=inj _ _ (by omega) (by omega) k
   omega)
  (by
   rw [List.pairwise_map,List.pairwise_iff_getElem]
   intro i j hi hj hij
   rw [List.length_range] at hi hj
   simp only [List.getElem_range]
   exact nosh i j hij hj)
  (fun p hp=>by obtain ⟨i,hi,rfl⟩:=hps p hp;exact nofr i hi)
 have hset:(insert (f 0) (turn S ((List.range m).map fun i=>(f (2*i+1),f (2*i+2)))):FS)=S \ ofList ((List.range (2*m+1)).map f)∪(ofList ((List.range (2*m+1)).map f) \ S):=FS.ext fun z=>by
  rw [mem_insert,bqs,mem_union,mem_sdiff,mem_sdiff,mem_ofList,List.map_map,List.map_map]
  simp only [List.mem_map,List.mem_range,Function.comp]
  constructor
  ·rintro (rfl | ⟨hz,hn⟩ | ⟨i,hi,rfl⟩)
   ·exact .inr ⟨⟨0,by omega,rfl⟩,h0⟩
   ·refine .inl ⟨hz,?_⟩
    rintro ⟨a,ha,rfl⟩
    rcases Nat.mod_two_eq_zero_or_one a with k | k
    ·exact ev (a/2) (by omega) (by rw [show 2*(a/2)=a by omega];exact hz)
    ·exact hn ⟨a/2,by omega,by rw [show 2*(a/2)+1=a by omega]⟩
   ·exact .inr ⟨⟨_,by omega,rfl⟩,e2 i hi⟩
  ·rintro (⟨hz,hn⟩ | ⟨⟨a,ha,rfl⟩,hn⟩)
   ·refine .inr (.inl ⟨hz,?_⟩)
    rintro ⟨i,hi,rfl⟩
    exact hn ⟨2*i+1,by omega,rfl⟩
   ·rcases Nat.mod_two_eq_zero_or_one a with k | k
    ·by_cases ha0:a=0
     ·subst ha0;exact .inl rfl
     ·exact .inr (.inr ⟨a/2-1,by omega,by rw [show 2*(a/2-1)+2=a by omega]⟩)
    ·exact absurd (by have:=od (a/2) (by omega);rwa [show 2*(a/2)+1=a by omega] at this) hn
 rw [hset] at key
 exact key
theorem aug_back (h:Rk r) (H:Heavy r w W S) {f:Nat->Int} {m:Nat} (inj:∀ i j,i<=2*m->j<=2*m->f i=f j->i=j)
  (ev:∀ i,i<=m->f (2*i)∉S) (od:∀ i,i<m->f (2*i+1)∈S) (to:Ind r (insert (f (2*m)) S)/\w (f (2*m))=W)
  (noto:∀ i,i<m->¬(Ind r (insert (f (2*i)) S)/\w (f (2*i))=W))
  (arc:∀ i,i<m->Ind r (insert (f (2*i)) (S.erase (f (2*i+1))))/\w (f (2*i))=w (f (2*i+1)))
  (nosh:∀ i j,i<j->j<m->¬(Ind r (insert (f (2*i)) (S.erase (f (2*j+1))))/\w (f (2*i))=w (f (2*j+1)))):
  Ind r (S \ ofList ((List.range (2*m+1)).map f)∪(ofList ((List.range (2*m+1)).map f) \ S))/\(S \ ofList ((List.range (2*m+1)).map f)∪(ofList ((List.range (2*m+1)).map f) \ S)).card=S.card+1/\
   (S \ ofList ((List.range (2*m+1)).map f)∪(ofList ((List.range (2*m+1)).map f) \ S)).sum w=S.sum w+W/\∀ t:FS,Ind r t->t.card=S.card+1->t.sum w<=S.sum w+W:=by
 have key:=h.aug_path H (f:=fun i=>f (2*m-i)) (m:=m) (fun i j hi hj k=>by have:=inj _ _ (by omega) (by omega) k;omega)
  (fun i hi=>by have:=ev (m-i) (by omega);rwa [show 2*(m-i)=2*m-2*i by omega] at this)
  (fun i hi=>by have:=od (m-i-1) (by omega);rwa [show 2*(m-i-1)+1=2*m-(2*i+1) by omega] at this)
  (by simpa using to)
  (fun i hi=>by have:=noto (m-i-1) (by omega);rwa [show 2*(m-i-1)=2*m-(2*i+2) by omega] at this)
  (fun i hi=>by have:=arc (m-i-1) (by omega);rwa [show 2*(m-i-1)=2*m-(2*i+2) by omega,show 2*m-(2*i+2)+1=2*m-(2*i+1) by omega] at this)
  (fun i j hij hj=>by have:=nosh (m-j-1) (m-i-1) (by omega) (by omega);rwa [show 2*(m-j-1)=2*m-(2*j+2) by omega,show 2*(m-i-1)+1=2*m-(2*i+1) by omega] at this)
 have hl:ofList ((List.range (2*m+1)).map fun i=>f (2*m-i))=ofList ((List.range (2*m+1)).map f):=FS.ext fun z=>by
  rw [mem_ofList,mem_ofList]
  simp only [List.mem_map,List.mem_range]
  constructor
  ·rintro ⟨i,hi,rfl⟩;exact ⟨_,by omega,rfl⟩
  ·rintro ⟨i,hi,rfl⟩;exact ⟨2*m-i,by omega,by congr 1;omega⟩
 rw [hl] at key
 exact key
end
end Rk
end Go.Am
namespace Go.Am
open Go Go.Proofs
set_option linter.unusedVariables false
set_option linter.unusedSimpArgs false
variable {w0:World}
attribute [local irreducible] AWP aqo
attribute [local congr] aqp
def adj7:List (List Int):=[[1,2],[3],[3],[]]
theorem p1:gqu adj7 [0] [3]=([0,1,3],true):=by decide +kernel
theorem p2:gqu adj7 [0,2] [3]=([2,3],true):=by decide +kernel
theorem p3:gqu adj7 [3] [0]=([],false):=by decide +kernel
theorem p4:gqu adj7 [1,3] [1,3]=([1],true):=by decide +kernel
theorem p5:fromL adj7 [1]=[1,3]:=by decide +kernel
theorem p6:fromL adj7 [4]=[]:=by decide +kernel
end Go.Am
namespace Go.Am
open Go
set_option linter.unusedVariables false
set_option linter.unusedSimpArgs false
structure WayOK (adj:List (List Int)) (d:Int->Int) (k:Nat) (p:List Int):Prop where
 len:p.length=k+1
 dist:∀ (i:Nat) (h:i<p.length),d p[i]=k-i
 lt:∀ (i:Nat) (h:i<p.length),0<=p[i]/\p[i]<adj.length
 arc:∀ (i:Nat) (h:i+1<p.length),p[i+1]∈out adj p[i]
section
variable {adj:List (List Int)} (hG:Gr adj) {to:List Int} (ht:Pts adj.length to)
include hG ht
theorem way_ok (k:Nat):∀ {v:Int},(0<=v/\v<adj.length)->bqc (bqe adj) to v=k->WayOK adj (bqc (bqe adj) to) k (wayL adj (bqc (bqe adj) to) k v):=by
 induction k with
 | zero=>
  intro v hv hd
  refine ⟨rfl,fun i h=> ?_,fun i h=> ?_,fun i h=> ?_⟩
  ·simp only [wayL,List.length_singleton] at h
   have:i=0:=by omega
   subst this;simpa [wayL] using hd
  ·simp only [wayL,List.length_singleton] at h
   have:i=0:=by omega
   subst this;simpa [wayL] using hv
  ·simp [wayL] at h
 | succ k ih=>
  intro v hv hd
  obtain ⟨n1,n2,n3⟩:=lqx hG ht hv (k:=k) (by omega)
  have hw:=ih ((dqz hG v).lt _ n2) n3
  have h0:(wayL adj (bqc (bqe adj) to) k (fqw (bqc (bqe adj) to) (out adj v) k))[0]? =some (fqw (bqc (bqe adj) to) (out adj v) k):=by
   rw [jqn];rfl
  have he:wayL adj (bqc (bqe adj) to) (k+1) v=v::wayL adj (bqc (bqe adj) to) k (fqw (bqc (bqe adj) to) (out adj v) k):=rfl
  rw [he]
  generalize wayL adj (bqc (bqe adj) to) k (fqw (bqc (bqe adj) to) (out adj v) k)=w at *
  have hwl:=hw.len
  have h00:∀ h:0<w.length,w[0]∈out adj v:=fun h=>by
   rw [List.getElem?_eq_getElem h] at h0
   simp only [Option.some.injEq] at h0
   rw [h0];exact n2
  refine ⟨by simp [hwl],fun i h=> ?_,fun i h=> ?_,fun i h=> ?_⟩
  ·cases i with
   | zero=>simpa using hd
   | succ i=>
    have:=hw.dist i (by simpa using h)
    simp only [List.getElem_cons_succ]
    omega
  ·cases i with
   | zero=>exact hv
   | succ i=>exact hw.lt i (by simpa using h)
  ·cases i with
   | zero=>exact h00 (by omega)
   | succ i=>exact hw.arc i (by simpa using h)
theorem lql {fr:List Int} (hf:Pts adj.length fr):(jqj adj fr to=([],false)/\∀ x∈fr,bqc (bqe adj) to x= -1)\/
  ∃ (v:Int) (k:Nat),v∈fr/\bqc (bqe adj) to v=k/\jqj adj fr to=(wayL adj (bqc (bqe adj) to) k v,true)/\∀ x∈fr,0<=bqc (bqe adj) to x->k<=bqc (bqe adj) to x:=by
 have hb:=dt_bound hG ht
 unfold jqj
 simp only
 rcases gq3 (d:=bqc (bqe adj) to) (fun x hx=>(hf.lt x hx).1) with ⟨h1,h2⟩ | ⟨i,hi,h1,h2,h3,_⟩
 ·rw [h1]
  exact .inl ⟨by simp,fun x hx=>by have:=h2 x hx;have:=hb x;omega⟩
 ·have hv:=hf.lt fr[i] (List.getElem_mem _)
  rw [h1,if_neg (by omega)]
  exact .inr ⟨fr[i],(bqc (bqe adj) to fr[i]).toNat,List.getElem_mem _,by omega,rfl,fun x hx h0=>by have:=h3 x hx h0;omega⟩
theorem meets_iff {fr:List Int} (hf:Pts adj.length fr):(∃ x∈levL adj fr adj.length,x∈to)↔∃ v∈fr,bqc (bqe adj) to v≠ -1:=by
 constructor
 ·rintro ⟨x,hx,hxt⟩
  obtain ⟨u,hu,hw⟩:=(jqt hG hf).1 hx
  refine ⟨u,hu,fun h=> ?_⟩
  have:u∈levL (bqe adj) to adj.length:=(jqt (eqf hG) (dqo ht)).2 ⟨x,hxt,(turn_walk hG (hf.lt u hu) (ht.lt x hxt)).2 hw⟩
  have h2:=(nqr (eqf hG) (dqo ht)).1 h
  rw [bqh] at h2
  exact h2 this
 ·rintro ⟨v,hv,h⟩
  have:v∈levL (bqe adj) to adj.length:=by
   refine Classical.byContradiction fun hn=>h ((nqr (eqf hG) (dqo ht)).2 ?_)
   rw [bqh];exact hn
  obtain ⟨x,hxt,hw⟩:=(jqt (eqf hG) (dqo ht)).1 this
  exact ⟨x,(jqt hG hf).2 ⟨v,hv,(turn_walk hG (hf.lt v hv) (ht.lt x hxt)).1 hw⟩,hxt⟩
end
section
variable {adj:List (List Int)} (hG:Gr adj)
include hG
theorem lev_closed {a:List Int} (ha:Pts adj.length a) {x y:Int} (hx:x∈levL adj a adj.length) (hy:y∈out adj x):y∈levL adj a adj.length:=
 lev_le hG ha ((gqz hG ha (k:=adj.length)).2 (.inr ⟨x,hx,hy⟩))
end
end Go.Am
namespace Go.Am
set_option linter.unusedVariables false
set_option linter.unusedSimpArgs false
open FS
variable {r1 r2:FS->Nat}
def eqg (S:FS) (p:List Int):FS:=S \ ofList p∪(ofList p \ S)
structure Arcs (r1 r2:FS->Nat) (wa wb:Int->Int) (Wa Wb:Int) (S:FS) (adj:List (List Int)) (fr to:List Int):Prop where
 gr:Gr adj
 pf:Pts adj.length fr
 pt:Pts adj.length to
 arc:∀ p q:Int,(0<=p/\p<adj.length)->(0<=q/\q<adj.length)->(q∈out adj p↔(p∈S/\q∉S/\Rk.Ind r1 (insert q (S.erase p))/\wa q=wa p)\/(q∈S/\p∉S/\Rk.Ind r2 (insert p (S.erase q))/\wb p=wb q))
 fr:∀ x:Int,(0<=x/\x<adj.length)->(x∈fr↔x∉S/\Rk.Ind r1 (insert x S)/\wa x=Wa)
 to:∀ x:Int,(0<=x/\x<adj.length)->(x∈to↔x∉S/\Rk.Ind r2 (insert x S)/\wb x=Wb)
theorem map_getD (p:List Int):(List.range p.length).map (fun i=>p.getD i 0)=p:=by
 refine List.ext_getElem (by simp) fun i h1 h2=> ?_
 simp at h1
 simp [h1]
theorem aug_way (h1:Rk r1) (h2:Rk r2) {wa wb:Int->Int} {Wa Wb:Int} {S:FS} {adj:List (List Int)} {fr to:List Int} (A:Arcs r1 r2 wa wb Wa Wb S adj fr to)
  (H1:Rk.Heavy r1 wa Wa S) (H2:Rk.Heavy r2 wb Wb S) {p:List Int} (hp:jqj adj fr to=(p,true)):
  p.Nodup/\(∀ x∈p,0<=x/\x<adj.length)/\(Rk.Ind r1 (eqg S p)/\(eqg S p).card=S.card+1/\(eqg S p).sum wa=S.sum wa+Wa/\∀ t:FS,Rk.Ind r1 t->t.card=S.card+1->t.sum wa<=S.sum wa+Wa)/\
   Rk.Ind r2 (eqg S p)/\(eqg S p).card=S.card+1/\(eqg S p).sum wb=S.sum wb+Wb/\∀ t:FS,Rk.Ind r2 t->t.card=S.card+1->t.sum wb<=S.sum wb+Wb:=by
 rcases lql A.gr A.pt A.pf with ⟨k,_⟩ | ⟨v,k,hv,hd,hpe,hmin⟩
 ·rw [k] at hp;simp at hp
 rw [hpe] at hp
 simp only [Prod.mk.injEq,and_true] at hp
 have hvl:=A.pf.lt v hv
 have W:=way_ok A.gr A.pt k hvl hd
 have h0:p[0]? =some v:=by rw [<-hp,jqn];rfl
 rw [hp] at W
 have hz:=fun {v}=>dt_zero A.gr A.pt (v:=v)
 have harc:=fun {u v} (a:0<=v/\v<(adj.length:Int)) b c=>dt_arc A.gr A.pt (u:=u) (v:=v) a b c
 generalize bqc (bqe adj) to=d at *
 obtain ⟨f,hf⟩:∃ f:Nat->Int,f=fun i=>p.getD i 0:=⟨_,rfl⟩
 have hfi:∀ i (h:i<p.length),p[i]=f i:=fun i h=>by simp [hf,h]
 have hlen:=W.len
 have hdist:∀ i,i<=k->d (f i)=k-i:=fun i hi=>by rw [<-hfi i (by omega)];exact W.dist i (by omega)
 have hlt:∀ i,i<=k->0<=f i/\f i<adj.length:=fun i hi=>by rw [<-hfi i (by omega)];exact W.lt i (by omega)
 have hstep:∀ i,i<k->f (i+1)∈out adj (f i):=fun i hi=>by rw [<-hfi i (by omega),<-hfi (i+1) (by omega)];exact W.arc i (by omega)
 have hf0:f 0=v:=by rw [<-hfi 0 (by omega)];rw [List.getElem?_eq_getElem (by omega)] at h0;simpa using h0
 have hstep':=fun (i:Nat) (hi:i<k)=>(A.arc _ _ (hlt i (by omega)) (hlt (i+1) (by omega))).1 (hstep i hi)
 have par:∀ i,i<=k->(f i∈S↔i%2=1):=by
  intro i
  induction i with
  | zero=>
   intro _
   rw [hf0]
   have:=((A.fr v hvl).1 hv).1
   simp [this]
  | succ i ih=>
   intro hi
   have ih':=ih (by omega)
   rcases hstep' i (by omega) with ⟨a,b,_⟩ | ⟨a,b,_⟩
   ·have:=ih'.1 a
    exact ⟨fun k=>absurd k b,fun k=>by omega⟩
   ·have:¬i%2=1:=fun k=>b (ih'.2 k)
    exact ⟨fun _=>by omega,fun _=>a⟩
 have hlast:f k∈to:=hz.1 (by rw [hdist k (Nat.le_refl _)];omega)
 have hlast':=(A.to _ (hlt k (Nat.le_refl _))).1 hlast
 have hpar:k%2=0:=by
  have:=par k (Nat.le_refl _)
  rcases Nat.mod_two_eq_zero_or_one k with e | e
  ·exact e
  ·exact absurd (this.2 e) hlast'.1
 obtain ⟨m,hm⟩:∃ m,k=2*m:=⟨k/2,by omega⟩
 subst hm
 have inj:∀ i j,i<=2*m->j<=2*m->f i=f j->i=j:=fun i j hi hj e=>by
  have a:=hdist i hi;have b:=hdist j hj
  rw [e] at a;omega
 have ev:∀ i,i<=m->f (2*i)∉S:=fun i hi k=>by have:=(par _ (by omega)).1 k;omega
 have od:∀ i,i<m->f (2*i+1)∈S:=fun i hi=>(par _ (by omega)).2 (by omega)
 have hpl:(List.range (2*m+1)).map f=p:=by rw [<-hlen,hf];exact map_getD p
 have hfr0:=(A.fr v hvl).1 hv
 rw [<-hf0] at hfr0
 have short:∀ i j,i+1<j->j<=2*m->¬f j∈out adj (f i):=fun i j hij hj hh=>by
  have a:=hdist i (by omega);have b:=hdist j hj
  have:=(harc (hlt i (by omega)) hh (by omega)).2
  omega
 have e1:=h1.aug_path H1 inj ev od hfr0.2
  (fun i hi k=>by
   have:=hmin _ ((A.fr _ (hlt (2*i+2) (by omega))).2 ⟨ev (i+1) (by omega),k⟩) (by rw [hdist _ (by omega)];omega)
   rw [hdist _ (by omega)] at this
   omega)
  (fun i hi=>by
   rcases hstep' (2*i+1) (by omega) with ⟨a,b,c⟩ | ⟨a,b,c⟩
   ·exact c
   ·exact absurd (od i hi) b)
  (fun i j hij hj k=>short (2*i+1) (2*j+2) (by omega) (by omega) ((A.arc _ _ (hlt _ (by omega)) (hlt _ (by omega))).2 (.inl ⟨od i (by omega),ev (j+1) (by omega),k⟩)))
 have e2:=h2.aug_back H2 inj ev od hlast'.2
  (fun i hi k=>by
   have:=hz.2 ((A.to _ (hlt (2*i) (by omega))).2 ⟨ev i (by omega),k⟩)
   rw [hdist _ (by omega)] at this
   omega)
  (fun i hi=>by
   rcases hstep' (2*i) (by omega) with ⟨a,b,c⟩ | ⟨a,b,c⟩
   ·exact absurd a (ev i (by omega))
   ·exact c)
  (fun i j hij hj k=>short (2*i) (2*j+1) (by omega) (by omega) ((A.arc _ _ (hlt _ (by omega)) (hlt _ (by omega))).2 (.inr ⟨od j (by omega),ev i (by omega),k⟩)))
 rw [hpl] at e1 e2
 refine ⟨?_,fun x hx=> ?_,e1,e2⟩
 ·rw [<-hpl,List.Nodup,List.pairwise_map]
  refine List.nodup_range.imp_of_mem fun {i j} hi hj hne he=>hne ?_
  rw [List.mem_range] at hi hj
  exact inj i j (by omega) (by omega) he
 ·rw [<-hpl] at hx
  obtain ⟨i,hi,rfl⟩:=List.mem_map.1 hx
  rw [List.mem_range] at hi
  exact hlt i (by omega)
end Go.Am
namespace Go.Am
open Go Go.Proofs FS
set_option linter.unusedVariables false
set_option linter.unusedSimpArgs false
structure Com (a b:Mtd) (S:FS):Prop where
 oa:OkT a
 ob:OkT b
 nn:a.n=b.n
 sub:S⊆FS.upTo a.n.toNat
 i1:Rk.Ind (rkM a) S
 i2:Rk.Ind (rkM b) S
section
variable {a b:Mtd} {S:FS}
theorem Com.n64 (h:Com a b S):0<=a.n/\a.n<=64:=bq1 h.oa.may
theorem Com.sub' (h:Com a b S):S⊆FS.upTo b.n.toNat:=by rw [<-h.nn];exact h.sub
theorem Com.swap (h:Com a b S):Com b a S:=⟨h.ob,h.oa,h.nn.symm,h.sub',h.i2,h.i1⟩
theorem Com.lt (h:Com a b S) {x:Int} (hx:x∈S):0<=x/\x<a.n:=by
 have:=FS.mem_upTo.1 (h.sub x hx)
 have:=h.n64
 omega
theorem Com.r1 (h:Com a b S):Rk (rkM a):=h.oa.rk
theorem Com.r2 (h:Com a b S):Rk (rkM b):=h.ob.rk
theorem Com.may (h:Com a b S):mayS a b S.l=true:=by
 rw [mayS,fqa h.oa h.sub,fqa h.ob h.sub']
 simp [h.nn,h.i1,h.i2]
theorem eqe (h:Com a b S):(adjS a b S).length=a.n.toNat:=by simp [adjS]
theorem stB_true {m:Mtd} {x y:Int}:stB m S x y=true↔y∈S/\x∉S/\Rk.Ind (rkM m) (insert x (S.erase y)):=by
 simp [stB,and_assoc]
theorem nqy (h:Com a b S) {p q:Int} (hp:0<=p/\p<a.n):q∈out (adjS a b S) p↔(0<=q/\q<a.n)/\((p∈S/\q∉S/\Rk.Ind (rkM a) (insert q (S.erase p)))\/(q∈S/\p∉S/\Rk.Ind (rkM b) (insert p (S.erase q)))):=by
 have hn:=h.n64
 have hl:p.toNat<(adjS a b S).length:=by rw [eqe h];omega
 rw [out_eq hl]
 simp only [adjS,List.getElem_map,cqm,List.mem_filter,aqq,Bool.or_eq_true,stB_true]
 have e:((p.toNat:Nat):Int)=p:=by omega
 rw [e]
 have e2:((a.n.toNat:Nat):Int)=a.n:=by omega
 rw [e2]
theorem nqz (h:Com a b S):Gr (adjS a b S):=by
 have hn:=h.n64
 have hl:=eqe h
 refine ⟨by omega,fun l hm=> ?_⟩
 rw [hl]
 simp only [adjS,List.mem_map] at hm
 obtain ⟨p,hp,rfl⟩:=hm
 refine ⟨⟨(dqh _).filter _,fun x hx=> ?_⟩,fun x hx=> ?_⟩
 ·have:=aqq.1 (List.mem_filter.1 hx).1;omega
 ·exact aqq.1 (List.mem_filter.1 hx).1
theorem iqh {m:Mtd} (hm:0<=m.n) {x:Int}:x∈bqj m S↔(0<=x/\x<m.n)/\x∉S/\Rk.Ind (rkM m) (insert x S):=by
 have e2:((m.n.toNat:Nat):Int)=m.n:=by omega
 simp only [bqj,List.mem_filter,aqq,e2,Bool.and_eq_true,Bool.not_eq_true',decide_eq_false_iff_not,decide_eq_true_eq]
theorem iqg {m:Mtd} (hm:0<=m.n/\m.n<=64):Pts m.n.toNat (bqj m S):=by
 refine ⟨⟨(dqh _).filter _,fun x hx=> ?_⟩,fun x hx=> ?_⟩
 ·have:=aqq.1 (List.mem_filter.1 hx).1;omega
 ·exact aqq.1 (List.mem_filter.1 hx).1
theorem fq8 (h:Com a b S):Arcs (rkM a) (rkM b) (fun _=>0) (fun _=>0) 0 0 S (adjS a b S) (bqj a S) (bqj b S):=by
 have hn:=h.n64
 have hl:=eqe h
 have e:((adjS a b S).length:Int)=a.n:=by omega
 have hnb:=h.swap.n64
 refine ⟨nqz h,by rw [hl];exact iqg hn,by rw [hl,h.nn];exact iqg hnb,fun p q hp hq=> ?_,fun x hx=> ?_,fun x hx=> ?_⟩
 ·rw [e] at hp hq
  rw [nqy h hp]
  simp [hq]
 ·rw [e] at hx
  rw [iqh hn.1]
  simp [hx]
 ·rw [e] at hx
  rw [iqh hnb.1,<-h.nn]
  simp [hx]
theorem lq3 {r:FS->Nat} (hi:Rk.Ind r S):Rk.Heavy r (fun _=>0) 0 S:=⟨hi,fun _ _ _ _ _=>Int.le_refl _,fun _ _ _=>Int.le_refl _⟩
theorem com_aug (h:Com a b S) {p:List Int} (hp:jqj (adjS a b S) (bqj a S) (bqj b S)=(p,true)):
  Com a b (eqg S p)/\(eqg S p).card=S.card+1/\p.Nodup/\∀ x∈p,0<=x/\x<a.n:=by
 obtain ⟨h1,h2,⟨h3,h4,_,_⟩,h5,_⟩:=aug_way h.r1 h.r2 (fq8 h) (lq3 h.i1) (lq3 h.i2) hp
 have hl:=eqe h
 have hn:=h.n64
 have e:((adjS a b S).length:Int)=a.n:=by omega
 rw [e] at h2
 refine ⟨⟨h.oa,h.ob,h.nn,fun x hx=> ?_,h3,h5⟩,h4,h1,h2⟩
 rw [eqg,FS.mem_union,FS.mem_sdiff,FS.mem_sdiff,FS.mem_ofList] at hx
 rcases hx with hx | hx
 ·exact h.sub x hx.1
 ·rw [FS.mem_upTo];have:=h2 x hx.1;omega
theorem com_stuck (h:Com a b S) (hno:∀ x,x∈levL (adjS a b S) (bqj a S) (adjS a b S).length->x∉bqj b S):
  rkM a (FS.upTo a.n.toNat \ FS.ofList (levL (adjS a b S) (bqj a S) (adjS a b S).length))+rkM b (FS.ofList (levL (adjS a b S) (bqj a S) (adjS a b S).length))=S.card:=by
 have A:=fq8 h
 have hl:=eqe h
 have hn:=h.n64
 have e:((adjS a b S).length:Int)=a.n:=by omega
 have hlev:=eqm A.gr A.pf (adjS a b S).length
 have hin:∀ x,x∈bqj a S->x∈levL (adjS a b S) (bqj a S) (adjS a b S).length:=fun x hx=>hq6 A.gr A.pf (Nat.zero_le _) hx
 have hcl:=fun x y hx hy=>lev_closed A.gr A.pf (x:=x) (y:=y) hx hy
 generalize levL (adjS a b S) (bqj a S) (adjS a b S).length=L at *
 have hL:∀ x,x∈L->0<=x/\x<a.n:=fun x hx=>by have:=hlev.lt x hx;omega
 refine stuck_arcs h.r1 h.r2 h.i1 h.i2 h.sub (fun x hx=> ?_) (fun x hx hxS hI=> ?_) (fun x hx hxS hI=> ?_) (fun y x hy hyS hx hxS hI=> ?_) fun x y hx hxS hy hI=> ?_
 ·rw [FS.mem_upTo];have:=hL x (FS.mem_ofList.1 hx);omega
 ·rw [FS.mem_upTo] at hx
  exact FS.mem_ofList.2 (hin x ((iqh hn.1).2 ⟨by omega,hxS,hI⟩))
 ·have hx':=FS.mem_ofList.1 hx
  exact hno x hx' ((iqh (by rw [<-h.nn];exact hn.1)).2 ⟨by rw [<-h.nn];exact hL x hx',hxS,hI⟩)
 ·rw [FS.mem_upTo] at hx
  have hy':=FS.mem_ofList.1 hy
  exact FS.mem_ofList.2 (hcl y x hy' ((nqy h (hL y hy')).2 ⟨by omega,.inl ⟨hyS,hxS,hI⟩⟩))
 ·have hx':=FS.mem_ofList.1 hx
  exact FS.mem_ofList.2 (hcl x y hx' ((nqy h (hL x hx')).2 ⟨h.lt hy,.inr ⟨hy,hxS,hI⟩⟩))
end
end Go.Am
namespace Go.Am
open Go Go.Proofs
set_option linter.unusedVariables false
set_option linter.unusedSimpArgs false
variable {w0:World}
attribute [local irreducible] AWP aqo
attribute [local congr] aqp
theorem Rows.base {e:TypeId} {H h:Heap} {O m:Nat} {parts:List (List Int)} {cells:List AV} {k:Blk} (R:Rows e H h O parts cells) (hm:H m≠none\/h m=none):Rows e (upd H m (some k)) (upd h m (some k)) O parts cells:=by
 have hO:O≠m:=by
  rintro rfl
  rcases hm with hm | hm
  ·exact hm R.new
  ·rw [R.out] at hm;cases hm
 refine ⟨R.len,by rw [aqm _ _ _ hO];exact R.out,fun i p hp=> ?_,R.dis,fun s k' hs=> ?_,by rw [aqm _ _ _ hO];exact R.new⟩
 ·rcases R.row i p hp with h1 | ⟨r,hc,hr,hn,hne⟩
  ·exact .inl h1
  ·have:r≠m:=by
    rintro rfl
    rcases hm with hm | hm
    ·exact hm hn
    ·rw [hr] at hm;cases hm
   exact .inr ⟨r,hc,by rw [aqm _ _ _ this];exact hr,by rw [aqm _ _ _ this];exact hn,hne⟩
 ·by_cases e:s=m
  ·subst e;rw [aqj] at hs ⊢;exact hs
  ·rw [aqm _ _ _ e] at hs ⊢;exact R.sub s k' hs
def rowP (f g:Int->Int->Bool) (PL:List (Int×Int)) (p:Int):List Int:=PL.flatMap fun e=>(if p=e.2/\f e.1 e.2=true then [e.1] else [])++(if p=e.1/\g e.1 e.2=true then [e.2] else [])
theorem rowP_snoc (f g:Int->Int->Bool) (PL:List (Int×Int)) (x y p:Int):rowP f g (PL++[(x,y)]) p=(rowP f g PL p++(if p=y/\f x y=true then [x] else []))++(if p=x/\g x y=true then [y] else []):=by
 simp [rowP,List.flatMap_append]
theorem rowP_len (f g:Int->Int->Bool) (PL:List (Int×Int)) (p:Int):(rowP f g PL p).length<=2*PL.length:=by
 induction PL with
 | nil=>simp [rowP]
 | cons e PL ih=>
  have:rowP f g (e::PL) p=((if p=e.2/\f e.1 e.2=true then [e.1] else [])++(if p=e.1/\g e.1 e.2=true then [e.2] else []))++rowP f g PL p:=by simp [rowP]
  rw [this,List.length_append,List.length_append,List.length_cons]
  have h1:(if p=e.2/\f e.1 e.2=true then [e.1] else []).length<=1:=by split<;>simp
  have h2:(if p=e.1/\g e.1 e.2=true then [e.2] else []).length<=1:=by split<;>simp
  omega
def cq5 (S l:List Int):List (Int×Int):=l.flatMap fun x=>S.map fun y=>(x,y)
theorem pairL_snoc (S l:List Int) (x:Int):cq5 S (l++[x])=cq5 S l++S.map fun y=>(x,y):=by simp [cq5]
theorem pairL_len (S l:List Int):(cq5 S l).length=l.length*S.length:=by
 induction l with
 | nil=>simp [cq5]
 | cons x l ih=>
  have:cq5 S (x::l)=(S.map fun y=>(x,y))++cq5 S l:=by simp [cq5]
  rw [this,List.length_append,List.length_map,ih,List.length_cons,Nat.add_mul];omega
theorem lqu {n:Nat} {h:Int->List Int} {k:Int} {v:List Int} (hk:0<=k):((upto n).map h).set k.toNat v=(upto n).map fun p=>if p=k then v else h p:=by
 refine List.ext_getElem (by simp) fun i h1 h2=> ?_
 simp only [List.length_set,List.length_map,aqv] at h1
 rw [List.getElem_set,List.getElem_map,List.getElem_map,cqm]
 by_cases e:k.toNat=i
 ·rw [if_pos e,if_pos (by omega)]
 ·rw [if_neg e,if_neg (by omega)]
theorem lqv {n:Nat} {h:Int->List Int} {k:Int} (hk:0<=k/\k<n):((upto n).map h)[k.toNat]? =some (h k):=by
 have hl:k.toNat<(upto n).length:=by simp;omega
 rw [List.getElem?_map,List.getElem?_eq_getElem hl,cqm,Option.map_some]
 congr 2
 omega
theorem mq4 {f g:Int->Int->Bool} {PL:List (Int×Int)} {p q:Int}:q∈rowP f g PL p↔((q,p)∈PL/\f q p=true)\/((p,q)∈PL/\g p q=true):=by
 simp only [rowP,List.mem_flatMap,List.mem_append]
 constructor
 ·rintro ⟨⟨x,y⟩,he,h | h⟩
  ·split at h
   ·rename_i c;simp at h c;obtain ⟨rfl,c2⟩:=c;subst h;exact .inl ⟨he,c2⟩
   ·simp at h
  ·split at h
   ·rename_i c;simp at h c;obtain ⟨rfl,c2⟩:=c;subst h;exact .inr ⟨he,c2⟩
   ·simp at h
 ·rintro (⟨h1,h2⟩ | ⟨h1,h2⟩)
  ·exact ⟨(q,p),h1,.inl (by simp [h2])⟩
  ·exact ⟨(p,q),h1,.inr (by simp [h2])⟩
theorem fqx {S l:List Int} {x y:Int}:(x,y)∈cq5 S l↔x∈l/\y∈S:=by simp [cq5]
theorem rowP_up {f g:Int->Int->Bool} {S:List Int} (hS:S.Pairwise (· < ·)) {p:Int}:∀ {l:List Int},l.Pairwise (· < ·)->(∀ x∈l,x∉S)->(rowP f g (cq5 S l) p).Pairwise (· < ·):=by
 have one:∀ x,x∉S->(rowP f g (S.map fun y=>(x,y)) p).Pairwise (· < ·)/\(p∈S->∀ q∈rowP f g (S.map fun y=>(x,y)) p,q=x)/\(p∉S->p≠x->rowP f g (S.map fun y=>(x,y)) p=[]):=by
  intro x hx
  by_cases hp:p∈S
  ·have hpx:p≠x:=fun e=>hx (e▸hp)
   have e:∀ S':List Int,S'.Pairwise (· < ·)->rowP f g (S'.map fun y=>(x,y)) p=if p∈S'/\f x p=true then [x] else []:=by
    intro S'
    induction S' with
    | nil=>intro _;simp [rowP]
    | cons y S' ih=>
     intro hup
     rw [List.pairwise_cons] at hup
     have ih':=ih hup.2
     have e1:rowP f g ((y::S').map fun y=>(x,y)) p=((if p=y/\f x y=true then [x] else [])++(if p=x/\g x y=true then [y] else []))++rowP f g (S'.map fun y=>(x,y)) p:=by simp [rowP]
     rw [e1,ih',if_neg (c:=p=x/\g x y=true) (fun k=>hpx k.1),List.append_nil]
     by_cases hy:p=y
     ·subst hy
      have:p∉S':=fun k=>by have:=hup.1 p k;omega
      simp [this]
     ·simp [hy]
   rw [e S hS]
   refine ⟨by split<;>simp,fun _ q hq=> ?_,fun k=>absurd hp k⟩
   split at hq<;>simp at hq
   exact hq
  ·have e:∀ S':List Int,(∀ y∈S',y∈S)->rowP f g (S'.map fun y=>(x,y)) p=if p=x then S'.filter (g x) else []:=by
    intro S'
    induction S' with
    | nil=>intro _;simp [rowP]
    | cons y S' ih=>
     intro hin
     have ih':=ih fun z hz=>hin z (by simp [hz])
     have hpy:p≠y:=fun e=>hp (e▸hin y (by simp))
     have e1:rowP f g ((y::S').map fun y=>(x,y)) p=((if p=y/\f x y=true then [x] else [])++(if p=x/\g x y=true then [y] else []))++rowP f g (S'.map fun y=>(x,y)) p:=by simp [rowP]
     rw [e1,ih',if_neg (c:=p=y/\f x y=true) (fun k=>hpy k.1),List.nil_append]
     by_cases hy:p=x
     ·simp only [hy,true_and,if_true]
      cases hg:g x y<;>simp [hg]
     ·simp [hy]
   rw [e S fun _ h=>h]
   refine ⟨by split;exact hS.filter _;simp,fun k=>absurd k hp,fun _ hpx=>by rw [if_neg hpx]⟩
 intro l
 induction l with
 | nil=>intro _ _;simp [cq5,rowP]
 | cons x l ih=>
  intro hup hno
  rw [List.pairwise_cons] at hup
  have ih':=ih hup.2 fun z hz=>hno z (by simp [hz])
  obtain ⟨o1,o2,o3⟩:=one x (hno x (by simp))
  have e:rowP f g (cq5 S (x::l)) p=rowP f g (S.map fun y=>(x,y)) p++rowP f g (cq5 S l) p:=by simp [cq5,rowP]
  rw [e,List.pairwise_append]
  refine ⟨o1,ih',fun a ha b hb=> ?_⟩
  by_cases hp:p∈S
  ·rw [o2 hp a ha]
   rcases mq4.1 hb with ⟨h,_⟩ | ⟨h,_⟩
   ·exact hup.1 b (fqx.1 h).1
   ·exact absurd hp (hno p (by simp [(fqx.1 h).1]))
  ·by_cases hpx:p=x
   ·rcases mq4.1 hb with ⟨h,_⟩ | ⟨h,_⟩
    ·exact absurd (fqx.1 h).2 hp
    ·have:=hup.1 p (fqx.1 h).1;omega
   ·rw [o3 hp hpx] at ha;cases ha
theorem rows_final {x y:Mtd} {S:FS} (C:Com x y S):(upto x.n.toNat).map (rowP (fun z u=>decide (Rk.Ind (rkM x) (insert z (S.erase u)))) (fun z u=>decide (Rk.Ind (rkM y) (insert z (S.erase u)))) (cq5 S.l (FS.upTo x.n.toNat \ S).l))=adjS x y S:=by
 rw [adjS]
 apply List.map_congr_left
 intro p hp
 have hn:=C.n64
 have hp':=aqq.1 hp
 refine cqu (rowP_up S.up (FS.upTo x.n.toNat \ S).up fun z hz=>(FS.mem_sdiff.1 (bqa.1 hz)).2) ((dqh _).filter _) fun q=> ?_
 simp only [mq4,fqx,List.mem_filter,Bool.or_eq_true,stB_true,bqa,FS.mem_sdiff,FS.mem_upTo,aqq,decide_eq_true_eq]
 have hlt:=fun h=>C.lt (x:=q) h
 constructor
 ·rintro (⟨⟨⟨h1,h2⟩,h3⟩,h4⟩ | ⟨⟨⟨h1,h2⟩,h3⟩,h4⟩)
  ·exact ⟨h1,.inl ⟨h3,h2,h4⟩⟩
  ·refine ⟨?_,.inr ⟨h3,h2,h4⟩⟩
   have:=hlt h3;omega
 ·rintro ⟨h1,⟨h2,h3,h4⟩ | ⟨h2,h3,h4⟩⟩
  ·exact .inl ⟨⟨⟨h1,h3⟩,h2⟩,h4⟩
  ·exact .inr ⟨⟨⟨hp',h3⟩,h2⟩,h4⟩
theorem mqh {m:Mtd} {S:FS} {n:Nat} (hn:n=m.n.toNat):(FS.upTo n \ S).l.filter (fun z=>decide (Rk.Ind (rkM m) (insert z S)))=bqj m S:=by
 subst hn
 rw [bqj]
 refine cqu ((FS.upTo m.n.toNat \ S).up.filter _) ((dqh _).filter _) fun q=> ?_
 simp only [List.mem_filter,bqa,FS.mem_sdiff,FS.mem_upTo,aqq,Bool.and_eq_true,Bool.not_eq_true',decide_eq_false_iff_not,decide_eq_true_eq,and_assoc]
end Go.Am
