/- Contracts and plain laws that the law InterTurnsG needs, part 8. -/
import Derived.Test.YtcdcombogmflkaaGreatDoorZInterTurnsG7
import Derived.Shelf.Sort.Plain
import Derived.Test.YtcdcombogmflkaaGreatDoorChecked
namespace Go.Proofs
open Go.Shelf
def Tryz.lays189_ren:Go.Shelf.Ren:=⟨fun | 189=>73 | 125=>111 | 257=>110 | 128=>144 | 129=>145 | 294=>135 | 295=>136 | 296=>137 | 297=>138 | 298=>139 | 299=>140 | 216=>141 | 300=>142 | 301=>143 | 328=>178 | 329=>179 | 330=>180 | 331=>181 | 332=>182 | 215=>183 | 343=>201 | n=>n,fun | 28=>26 | 3=>3 | 46=>103 | 0=>0 | 51=>127 | 53=>129 | 4=>4 | 183=>120 | 182=>119 | 131=>124 | 5=>5 | 9=>9 | 218=>159 | 222=>163 | 228=>194 | 229=>195 | n=>n,fun | n=>n⟩
theorem Tryz.lays189:Go.Proofs.Lays.n189 Tryz.prog Tryz.lays189_ren:={
 mixed:=by kernel_rfl
 f125:=Tryz.func111.trans (congrArg some (by kernel_rfl))
 f128:=Tryz.func144.trans (congrArg some (by kernel_rfl))
 f129:=Tryz.func145.trans (congrArg some (by kernel_rfl))
 f189:=Tryz.func73.trans (congrArg some (by kernel_rfl))
 f215:=Tryz.func183.trans (congrArg some (by kernel_rfl))
 f216:=Tryz.func141.trans (congrArg some (by kernel_rfl))
 f257:=Tryz.func110.trans (congrArg some (by kernel_rfl))
 f294:=Tryz.func135.trans (congrArg some (by kernel_rfl))
 f295:=Tryz.func136.trans (congrArg some (by kernel_rfl))
 f296:=Tryz.func137.trans (congrArg some (by kernel_rfl))
 f297:=Tryz.func138.trans (congrArg some (by kernel_rfl))
 f298:=Tryz.func139.trans (congrArg some (by kernel_rfl))
 f299:=Tryz.func140.trans (congrArg some (by kernel_rfl))
 f300:=Tryz.func142.trans (congrArg some (by kernel_rfl))
 f301:=Tryz.func143.trans (congrArg some (by kernel_rfl))
 f328:=Tryz.func178.trans (congrArg some (by kernel_rfl))
 f329:=Tryz.func179.trans (congrArg some (by kernel_rfl))
 f330:=Tryz.func180.trans (congrArg some (by kernel_rfl))
 f331:=Tryz.func181.trans (congrArg some (by kernel_rfl))
 f332:=Tryz.func182.trans (congrArg some (by kernel_rfl))
 f343:=Tryz.func201.trans (congrArg some (by kernel_rfl))
 t0:=Tryz.underlying0
 a0:=Tryz.isAgg0
 z0:=Tryz.sizeOf0
 v0:=Tryz.zeroValue0
 t3:=Tryz.underlying3
 a3:=Tryz.isAgg3
 z3:=Tryz.sizeOf3
 v3:=Tryz.zeroValue3
 t4:=Tryz.underlying4
 a4:=Tryz.isAgg4
 z4:=Tryz.sizeOf4
 v4:=Tryz.zeroValue4
 t5:=Tryz.underlying5
 a5:=Tryz.isAgg5
 z5:=Tryz.sizeOf5
 v5:=Tryz.zeroValue5
 t9:=Tryz.underlying9
 a9:=Tryz.isAgg9
 z9:=Tryz.sizeOf9
 v9:=Tryz.zeroValue9
 t28:=Tryz.underlying26
 a28:=Tryz.isAgg26
 z28:=Tryz.sizeOf26
 v28:=Tryz.zeroValue26
 t46:=Tryz.underlying103
 a46:=Tryz.isAgg103
 z46:=Tryz.sizeOf103
 v46:=Tryz.zeroValue103
 t51:=Tryz.underlying127
 a51:=Tryz.isAgg127
 z51:=Tryz.sizeOf127
 v51:=Tryz.zeroValue127
 t53:=Tryz.underlying129
 a53:=Tryz.isAgg129
 z53:=Tryz.sizeOf129
 v53:=Tryz.zeroValue129
 t131:=Tryz.underlying124
 a131:=Tryz.isAgg124
 z131:=Tryz.sizeOf124
 v131:=Tryz.zeroValue124
 t182:=Tryz.underlying119
 a182:=Tryz.isAgg119
 z182:=Tryz.sizeOf119
 v182:=Tryz.zeroValue119
 t183:=Tryz.underlying120
 a183:=Tryz.isAgg120
 z183:=Tryz.sizeOf120
 v183:=Tryz.zeroValue120
 t218:=Tryz.underlying159
 a218:=Tryz.isAgg159
 z218:=Tryz.sizeOf159
 v218:=Tryz.zeroValue159
 t222:=Tryz.underlying163
 a222:=Tryz.isAgg163
 z222:=Tryz.sizeOf163
 v222:=Tryz.zeroValue163
 t228:=Tryz.underlying194
 a228:=Tryz.isAgg194
 z228:=Tryz.sizeOf194
 v228:=Tryz.zeroValue194
 t229:=Tryz.underlying195
 a229:=Tryz.isAgg195
 z229:=Tryz.sizeOf195
 v229:=Tryz.zeroValue195 }
end Go.Proofs
namespace Go.Am
open Go Go.Proofs
set_option linter.unusedVariables false
set_option linter.unusedSimpArgs false
variable {w0:World}
attribute [local irreducible] AWP aqo
attribute [local congr] aqp
theorem sortC:SortC Tryz.prog 73:=fun blk off cap zs w h1 h2 h3=>Any.slices_Sort_int Tryz.lays189 blk off cap zs w h1 h2 h3
def aq8 (l:List Int):List Int:=l.foldl (fun o x=>if o.getLast? =some x then o else o++[x]) []
theorem fqd (l:List Int) (x:Int):aq8 (l++[x])=if (aq8 l).getLast? =some x then aq8 l else aq8 l++[x]:=by
 unfold aq8;rw [List.foldl_append];rfl
theorem iqe (l:List Int):(aq8 l).getLast? =l.getLast? :=by
 induction l using eq3 with
 | h0=>rfl
 | h1 l x ih=>
  rw [fqd]
  split
  ·rename_i h;rw [h];simp
  ·simp
theorem iqd {l:List Int} {k:Nat} (h0:0<k) (h:k<l.length):aq8 (l.take (k+1))=if l[k-1]=l[k] then aq8 (l.take k) else aq8 (l.take k)++[l[k]]:=by
 rw [List.take_succ_eq_append_getElem h,fqd,iqe]
 have:(l.take k).getLast? =some l[k-1]:=by
  rw [List.getLast?_eq_getElem?,List.length_take,List.getElem?_take,if_pos (by omega),List.getElem?_eq_getElem (by omega)]
  congr 2
  omega
 rw [this]
 simp
theorem nqs {l:List Int}:l.Pairwise (· <= ·)->(aq8 l).Pairwise (· < ·)/\∀ x,x∈aq8 l↔x∈l:=by
 induction l using eq3 with
 | h0=>intro _;simp [aq8]
 | h1 l x ih=>
  intro hp
  rw [List.pairwise_append] at hp
  obtain ⟨h1,h2⟩:=ih hp.1
  rw [fqd]
  split
  ·rename_i h
   refine ⟨h1,fun y=> ?_⟩
   rw [h2,List.mem_append,List.mem_singleton]
   constructor
   ·exact .inl
   ·rintro (h' | rfl)
    ·exact h'
    ·rw [iqe] at h
     exact List.mem_of_getLast? h
  ·rename_i h
   refine ⟨?_,fun y=>by simp [h2]⟩
   rw [List.pairwise_append]
   refine ⟨h1,by simp,fun y hy z hz=> ?_⟩
   simp at hz;subst hz
   have hle:=hp.2.2 y ((h2 y).1 hy) z (by simp)
   refine Classical.byContradiction fun hn=>h ?_
   have e:y=z:=by omega
   subst e
   obtain ⟨i,hi,e⟩:=List.mem_iff_getElem.1 hy
   rw [List.getLast?_eq_getElem?,List.getElem?_eq_getElem (by omega)]
   congr 1
   by_cases e2:i=(aq8 l).length-1
   ·subst e2;exact e
   ·have a:=List.pairwise_iff_getElem.1 h1 i ((aq8 l).length-1) hi (by omega) (by omega)
    have b:=hp.2.2 _ ((h2 _).1 (List.getElem_mem (l:=aq8 l) (n:=(aq8 l).length-1) (by omega))) y (by simp)
    omega
theorem compact_use {s:List Int} {m top:Nat} {H:Heap} {r:Nat} (hl:s.length=top) (hm:m<=top) (hb:top<=1099511627776) (hr:H r=none) {K:AV->Heap->Prop}
  (k:∀ (c:List Int) (q:Nat),c.length=top->q<=top->c.take q=aq8 (s.take m)->K (.ref r 0 q top) (upd H r (some (.arr 1 3 (c.map I) top)))):
  aqo Tryz.prog w0 108 [.ref r 0 m top] (upd H r (some (.arr 1 3 (s.map I) top))) K:=by
 subst hl
 refine (?_:aqo Tryz.prog w0 108 [.ref r 0 m s.length] (upd H r (some (.arr 1 3 (s.map I) s.length)))
   (fun v H'=>∃ (c:List Int) (q:Nat),c.length=s.length/\q<=s.length/\c.take q=aq8 (s.take m)/\v= .ref r 0 q s.length/\H'=upd H r (some (.arr 1 3 (c.map I) s.length)))).drop ?_
 ·refine aqf Tryz.func108 rfl Tryz.ntmps108 (ts:=[2]) rfl (by simp) (by kernel_rfl) ?_
  by_cases hm2:m<2
  ·have hm2':(m:Int)<2:=by omega
   repeat'(with_reducible first|(refine sp (hK _ _ ?_);clear hK K)|refine vr [] fun K hK=>?_|((first|refine aqa fun K' hK'=>?_|refine aqb fun K' B hK' hB=>?_);simp[hm2'];repeat'(first|((first|refine hK' ?_|refine hB ?_);clear hK' hB K' B)|(apply hK';clear hK' K')|fail))|apply aqc|refine sp ?_|fail)
   refine ⟨s,m,rfl,hm,?_,by simp,rfl⟩
   cases h:s.take m with
   | nil=>rfl
   | cons x t=>
    have:=congrArg List.length h
    rw [List.length_take] at this
    simp only [List.length_cons] at this
    have ht:t=[]:=List.length_eq_zero_iff.1 (by omega)
    subst ht;rfl
  ·have hm2':¬(m:Int)<2:=by omega
   have h1s:aq8 (s.take 1)=s.take 1:=by
    cases s with
    | nil=>rfl
    | cons x s=>rfl
   repeat'(with_reducible first|(refine sp (hK _ _ ?_);clear hK K)|refine vr [] fun K hK=>?_|((first|refine aqa fun K' hK'=>?_|refine aqb fun K' B hK' hB=>?_);simp[hm2'];repeat'(first|((first|refine hK' ?_|refine hB ?_);clear hK' hB K' B)|(apply hK';clear hK' K')|fail))|refine sp ?_|fail)
   refine aqi (fun env h=>∃ i:Nat,1<=i/\i<=m/\env 3=I i/\env 0= .ref r 0 m s.length/\aq8 (s.take i)=s.take i/\h=upd H r (some (.arr 1 3 (s.map I) s.length))) (fun env _=>m-natA (env 3)) ?_ ?_
   ·exact ⟨1,by omega,by omega,by simp,by simp,h1s,rfl⟩
   rintro env h ⟨i,hi1,hi,h3,h0,hcs,rfl⟩
   have hnat:natA (env 3)=i:=by simp [h3]
   rw [hnat];clear hnat
   by_cases hlt:i<m
   ·have his:i<s.length:=by omega
    have his':i-1<s.length:=by omega
    have e1:((i:Int)-1).toNat=i-1:=by omega
    have e2:(0:Int)<=(i:Int)-1:=by omega
    have hst:=iqd (by omega) his
    by_cases heq:s[i-1]=s[i]
    ·rw [if_pos heq,hcs] at hst
     have heq':s[i]=s[i-1]:=heq.symm
     repeat'(with_reducible first|(refine sp (hK _ _ ?_);clear hK K)|refine vr [] fun K hK=>?_|(refine vd [] [] mixed fun K hK=>?_)|((first|refine aqa fun K' hK'=>?_|refine aqb fun K' B hK' hB=>?_|refine aqn fun K' hK'=>?_);simp[h3,h0,hlt,his,his',e1,e2,heq'];repeat'(first|((first|refine hK' ?_|refine hB ?_);clear hK' hB K' B)|(apply hK';clear hK' K')|refine And.intro ?_ ?_|(clear hK' K';omega)))|refine sp ?_|fail)
     all_goals try omega
     refine aqi (fun env h=>∃ (k2 q:Nat) (c:List Int),1<=k2/\i+k2<=m/\q+1<=i+k2/\c.length=s.length/\c.take q=aq8 (s.take (i+k2))/\c.drop (i+k2-1)=s.drop (i+k2-1)/\env 5=I k2/\env 3=I q/\
       env 0= .ref r 0 m s.length/\env 4= .ref r i (m-i) s.length/\h=upd H r (some (.arr 1 3 (c.map I) s.length))) (fun env _=>m-natA (env 5)) ?_ ?_
     ·exact ⟨1,i,s,by omega,by omega,by omega,rfl,hst.symm,rfl,by simp,by simp [h3],by simp [h0],by simp,rfl⟩
     clear h3 h0
     rintro env h ⟨k2,q,c,hk2,hik,hq,hcl,hct,hcd,h5,h3,h0,h4,rfl⟩
     have hnat:natA (env 5)=k2:=by simp [h5]
     rw [hnat];clear hnat
     have hget:∀ (p:Nat) (h1:p<c.length) (h2:p<s.length),i+k2-1<=p->c[p]=s[p]:=by
      intro p h1 h2 hp
      have:=congrArg (·[p-(i+k2-1)]?) hcd
      simp only [List.getElem?_drop] at this
      rw [show i+k2-1+(p-(i+k2-1))=p by omega,List.getElem?_eq_getElem h1,List.getElem?_eq_getElem h2] at this
      simpa using this
     by_cases hkl:k2<m-i
     ·have a1:i+k2<c.length:=by omega
      have a2:i+(k2-1)<c.length:=by omega
      have b1:i+k2<s.length:=by omega
      have b2:i+(k2-1)<s.length:=by omega
      have g1:=hget _ a1 b1 (by omega)
      have g2:=hget _ a2 b2 (by omega)
      have f1:((k2:Int)-1).toNat=k2-1:=by omega
      have f2:(0:Int)<=(k2:Int)-1:=by omega
      have hstep:=iqd (k:=i+k2) (by omega) b1
      have hidx:i+k2-1=i+(k2-1):=by omega
      simp only [hidx] at hstep
      by_cases hne:s[i+(k2-1)]=s[i+k2]
      ·rw [if_pos hne] at hstep
       have hne':s[i+k2]=s[i+(k2-1)]:=hne.symm
       have g1':=g1.trans hne'
       repeat'(with_reducible first|(refine sp (hK _ _ ?_);clear hK K)|refine vr [] fun K hK=>?_|(refine vd [] [] mixed fun K hK=>?_)|((first|refine aqa fun K' hK'=>?_|refine aqb fun K' B hK' hB=>?_|refine aqn fun K' hK'=>?_);simp[h5,h3,h0,h4,hkl,hcl,b1,b2,g1',g2,f1,f2];repeat'(first|((first|refine hK' ?_|refine hB ?_);clear hK' hB K' B)|(apply hK';clear hK' K')|refine And.intro ?_ ?_|(clear hK' K';omega)))|refine sp ?_|fail)
       refine ⟨⟨k2+1,q,c,by omega,by omega,by omega,hcl,?_,?_,by simp,by simp [h3],by simp [h0],by simp [h4],rfl⟩,by simp;omega⟩
       ·rw [<-Nat.add_assoc,hstep];exact hct
       ·have:=congrArg (List.drop 1) hcd
        rw [List.drop_drop,List.drop_drop] at this
        rw [show i+(k2+1)-1=i+k2-1+1 by omega];exact this
      ·rw [if_neg hne] at hstep
       have hne':¬s[i+k2]=s[i+(k2-1)]:=fun e=>hne e.symm
       have hqc:q<s.length:=by omega
       have hqm:q<m:=by omega
       repeat'(with_reducible first|(refine sp (hK _ _ ?_);clear hK K)|refine vr [] fun K hK=>?_|(refine vd [] [] mixed fun K hK=>?_)|((first|refine aqa fun K' hK'=>?_|refine aqb fun K' B hK' hB=>?_|refine aqn fun K' hK'=>?_);simp[h5,h3,h0,h4,hkl,hcl,b1,b2,g1,g2,f1,f2,hne',hqc,hqm];repeat'(first|((first|refine hK' ?_|refine hB ?_);clear hK' hB K' B)|(apply hK';clear hK' K')|refine And.intro ?_ ?_|(clear hK' K';omega)))|refine sp ?_|fail)
       refine ⟨⟨k2+1,q+1,c.set q s[i+k2],by omega,by omega,by omega,by simpa using hcl,?_,?_,by simp,by simp,by simp [h0],by simp [h4],by simp [List.map_set]⟩,by simp;omega⟩
       ·rw [<-Nat.add_assoc,hstep,<-hct,List.take_succ_eq_append_getElem (by simpa [hcl] using hqc),List.take_set_of_le (Nat.le_refl _)]
        simp
       ·rw [List.drop_set_of_lt (by omega)]
        have:=congrArg (List.drop 1) hcd
        rw [List.drop_drop,List.drop_drop] at this
        rw [show i+(k2+1)-1=i+k2-1+1 by omega];exact this
     ·have hkm:i+k2=m:=by omega
      have hqm:q<=m:=by omega
      rw [hkm] at hct
      obtain ⟨c',e1,e2,e3⟩:=setL_ints (List.replicate (m-q) 0) c q
      rw [<-zrep_ints] at e1
      repeat'(with_reducible first|(refine sp (hK _ _ ?_);clear hK K)|refine vr [] fun K hK=>?_|((first|refine aqa fun K' hK'=>?_|refine aqb fun K' B hK' hB=>?_);simp[h5,h3,h0,h4,hkl,hcl,hqm];repeat'(first|((first|refine hK' ?_|refine hB ?_);clear hK' hB K' B)|(apply hK';clear hK' K')|refine And.intro ?_ ?_|(clear hK' K';omega)))|apply aqc|refine sp ?_|fail)
      exact ⟨c',q,by omega,by omega,by rw [e3 q (Nat.le_refl _),hct],by simp,by rw [<-e1];simp⟩
    ·rw [if_neg heq,hcs] at hst
     have heq':¬s[i]=s[i-1]:=fun e=>heq e.symm
     repeat'(with_reducible first|(refine sp (hK _ _ ?_);clear hK K)|refine vr [] fun K hK=>?_|(refine vd [] [] mixed fun K hK=>?_)|((first|refine aqa fun K' hK'=>?_|refine aqb fun K' B hK' hB=>?_|refine aqn fun K' hK'=>?_);simp[h3,h0,hlt,his,his',e1,e2,heq'];repeat'(first|((first|refine hK' ?_|refine hB ?_);clear hK' hB K' B)|(apply hK';clear hK' K')|refine And.intro ?_ ?_|(clear hK' K';omega)))|refine sp ?_|fail)
     all_goals try omega
     refine ⟨⟨i+1,by omega,by omega,by simp,by simp [h0],by rw [hst,List.take_succ_eq_append_getElem his],rfl⟩,by simp;omega⟩
   ·have:i=m:=by omega
    subst this
    repeat'(with_reducible first|(refine sp (hK _ _ ?_);clear hK K)|refine vr [] fun K hK=>?_|((first|refine aqa fun K' hK'=>?_|refine aqb fun K' B hK' hB=>?_);simp[h3,h0];repeat'(first|((first|refine hK' ?_|refine hB ?_);clear hK' hB K' B)|(apply hK';clear hK' K')|fail))|apply aqc|refine sp ?_|fail)
    exact ⟨s,i,rfl,hm,hcs.symm,by simp,rfl⟩
 ·rintro v H' ⟨c,q,h1,h2,h3,rfl,rfl⟩
  exact ⟨_,.refl _,k c q h1 h2 h3⟩
abbrev inB (x:Int):Bool:=decide (0<=x/\x<=1099511627776)
theorem may1_ret {x:Int}:Ret Tryz.prog w0 107 [I x] (B (inB x)):=by
 intro H
 refine aqf Tryz.func107 rfl Tryz.ntmps107 (ts:=[2]) rfl (by simp) (by kernel_rfl) ?_
 repeat'(with_reducible first|(refine aqd (hK _ _ ?_);clear hK K)|refine vr [] fun K hK=>?_|((first|refine aqa fun K' hK'=>?_|(apply aqk;refine aqe rfl fun K' hK'=>?_));simp;repeat'(first|(apply hK';clear hK' K')|refine And.intro ?_ ?_|intro hg|fail))|apply aqc|refine sp ?_|fail)
 all_goals (by_cases h:0<=x<;>first | (exfalso;omega) | simp [h])
theorem sortP_ret {x:Int}:Ret Tryz.prog w0 106 [I x] (B (!inB x)):=by
 intro H
 refine aqf Tryz.func106 rfl Tryz.ntmps106 (ts:=[2]) rfl (by simp) (by kernel_rfl) ?_
 repeat'(with_reducible first|(refine aqd (hK _ _ ?_);clear hK K)|refine vr [] fun K hK=>?_|(refine aqa fun K' hK'=>?_;simp;repeat'(first|(apply hK';clear hK' K')|refine Ret.use may1_ret ?_|fail))|apply aqc|refine sp ?_|fail)
 simp
theorem lq0 {f:FuncId}:Ret Tryz.prog w0 131 [.sl [] 0,.clo f [] []] (I (-1)):=by
 intro H
 refine aqf Tryz.func131 rfl Tryz.ntmps131 (ts:=[4]) rfl (by simp) (by kernel_rfl) ?_
 repeat'(with_reducible first|(refine aqd (hK _ _ ?_);clear hK K)|refine vr [] fun K hK=>?_|(refine aqa fun K' hK'=>?_;simp;repeat'(first|(apply hK';clear hK' K')|fail))|refine sp ?_|fail)
 refine aqi (fun env h=>env 7=I 0/\env 8=I 0/\h=H) (fun _ _=>0) ?_ ?_
 ·exact ⟨by simp,by simp,rfl⟩
 rintro env h ⟨h7,h8,rfl⟩
 repeat'(with_reducible first|(refine aqd (hK _ _ ?_);clear hK K)|refine vr [] fun K hK=>?_|((first|refine aqa fun K' hK'=>?_|refine aqb fun K' B hK' hB=>?_);simp[h7,h8];repeat'(first|((first|refine hK' ?_|refine hB ?_);clear hK' hB K' B)|(apply hK';clear hK' K')|fail))|apply aqc|refine sp ?_|fail)
 all_goals simp
theorem delete_zero {f:FuncId}:Ret Tryz.prog w0 105 [.sl [] 0,.clo f [] []] (.sl [] 0):=by
 intro H
 refine aqf Tryz.func105 rfl Tryz.ntmps105 (ts:=[4]) rfl (by simp) (by kernel_rfl) ?_
 repeat'(with_reducible first|(refine aqd (hK _ _ ?_);clear hK K)|refine vr [] fun K hK=>?_|((first|refine aqa fun K' hK'=>?_|refine aqb fun K' B hK' hB=>?_);simp;repeat'(first|((first|refine hK' ?_|refine hB ?_);clear hK' hB K' B)|(apply hK';clear hK' K')|refine Ret.use lq0 ?_|fail))|apply aqc|refine sp ?_|fail)
 all_goals simp
theorem jqe:Ret Tryz.prog w0 108 [.sl [] 0] (.sl [] 0):=by
 intro H
 refine aqf Tryz.func108 rfl Tryz.ntmps108 (ts:=[2]) rfl (by simp) (by kernel_rfl) ?_
 repeat'(with_reducible first|(refine sp (hK _ _ ?_);clear hK K)|refine vr [] fun K hK=>?_|((first|refine aqa fun K' hK'=>?_|refine aqb fun K' B hK' hB=>?_);simp;repeat'(first|((first|refine hK' ?_|refine hB ?_);clear hK' hB K' B)|(apply hK';clear hK' K')|fail))|apply aqc|refine sp ?_|fail)
 all_goals simp
theorem sort_is (l:List Int):aq8 (dqd (l.filter fun x=> !!inB x))=cq3 l:=by
 have hs:=nqs (l:=dqd (l.filter fun x=> !!inB x)) (by
  have:=List.pairwise_mergeSort (le:=fun x y:Int=>decide (x<=y)) (fun a b c h1 h2=>by simp at *;omega) (fun a b=>by simp;omega) (l.filter fun x=> !!inB x)
  simpa [dqd] using this)
 have hm:∀ x,x∈aq8 (dqd (l.filter fun x=> !!inB x))↔x∈l/\0<=x/\x<=1099511627776:=by
  intro x
  rw [hs.2,dqd,List.mem_mergeSort,List.mem_filter]
  simp [inB]
 refine aq3.ext ⟨hs.1,fun x hx=>((hm x).1 hx).2⟩ (dqr l).1 fun x=> ?_
 rw [hm,(dqr l).2]
theorem mqq:dqq Tryz.prog 73=true:=by kernel_rfl
theorem sort_use {c:List Int} {m top:Nat} {H:Heap} {r:Nat} (hl:c.length=top) (hm:m<=top) (h0:0<m) (hb:top<=1099511627776) {K:AV->Heap->Prop}
  (k:∀ s:List Int,s.length=top->s.take m=dqd (c.take m)->K (.tup []) (upd H r (some (.arr 1 3 (s.map I) top)))):
  aqo Tryz.prog w0 73 [.ref r 0 m top] (upd H r (some (.arr 1 3 (c.map I) top))) K:=by
 have hsl:(dqd (c.take m)).length=m:=by rw [dqd,List.length_mergeSort,List.length_take];omega
 refine sort_acalls sortC mqq hl hm h0 (by omega) (aqj _ _ _) ?_
 have:=k (dqd (c.take m)++c.drop m) (by rw [List.length_append,hsl,List.length_drop];omega) (by rw [List.take_append_of_le_length (by omega),List.take_of_length_le (by omega)])
 rw [aqx]
 exact this
theorem sort_none {r n:Nat}:Ret Tryz.prog w0 73 [.ref r 0 0 n] (.tup []):=by
 intro H
 refine aqo.wks (args':=[.sl [] 0]) rfl (fun i a b h1 h2=> ?_) (kqb H)
 cases i with
 | zero=>
  simp at h1 h2
  subst h1;subst h2;exact wks_ref0
 | succ i=>simp at h1
theorem compact_none {r n:Nat}:Ret Tryz.prog w0 108 [.ref r 0 0 n] (.sl [] 0):=by
 intro H
 refine aqo.wks (args':=[.sl [] 0]) rfl (fun i a b h1 h2=> ?_) (jqe H)
 cases i with
 | zero=>
  simp at h1 h2
  subst h1;subst h2;exact wks_ref0
 | succ i=>simp at h1
theorem set_sort_ret {l:List Int} (hl:l.length<=1099511627776):Ret Tryz.prog w0 69 [ints l] (ints (cq3 l)):=by
 intro H
 refine aqf Tryz.func69 rfl Tryz.ntmps69 (ts:=[2]) rfl (by simp) (by kernel_rfl) ?_ |>cq4
 repeat'(first|(with_reducible (refine aqd (hK _ _ ?_);clear hK K))|(with_reducible refine vr [] fun K hK=>?_)|((with_reducible refine aqa fun K' hK'=>?_);simp;repeat'(first|(with_reducible (apply hK';clear hK' K'))|((with_reducible refine fq5 hl (fun hnil=> ?_) (fun r hr=> ?_));try simp)|fail))|fail)
 ·subst hnil
  with_reducible refine Ret.use delete_zero ?_
  with_reducible refine hK' _ _ ?_
  clear hK' K'
  repeat'(with_reducible first|(refine aqd (hK _ _ ?_);clear hK K)|refine vr [] fun K hK=>?_|(refine aqa fun K' hK'=>?_;simp;repeat'(first|(apply hK';clear hK' K')|refine Ret.use kqb ?_|refine Ret.use jqe ?_|fail))|apply aqc|refine sp ?_|fail)
  exact .inl ⟨by simp [cq3],.refl _⟩
 ·with_reducible refine delete_use hl hr (fun x=>sortP_ret) (fun c m hcl hm hct=> ?_)
  with_reducible refine hK' _ _ ?_
  clear hK' K'
  by_cases h0:0<m
  ·repeat'(first|(with_reducible (refine aqd (hK _ _ ?_);clear hK K))|(with_reducible refine vr [] fun K hK=>?_)|((with_reducible refine aqa fun K' hK'=>?_);simp;repeat'(first|(with_reducible (apply hK';clear hK' K'))|((with_reducible refine sort_use hcl hm h0 hl (fun s hs hst=> ?_));try simp)|((with_reducible refine compact_use hs hm hl hr (fun c2 q hcl2 hq hct2=> ?_));try simp)|fail))|(with_reducible first|apply aqc|refine sp ?_)|fail)
   rw [hst,hct,sort_is] at hct2
   refine .inr ⟨r,0,q,l.length,1,3,c2.map I,by simp,by simp,?_,?_⟩
   ·rw [<-hct2]
    simp [cut,ints]
    omega
   ·rw [aqx];exact aqh hr
  ·have hm0:m=0:=by omega
   subst hm0
   have hf:aq8 (dqd (l.filter fun x=> !!inB x))=[]:=by rw [<-hct];simp [dqd,aq8]
   rw [sort_is] at hf
   repeat'(with_reducible first|(refine aqd (hK _ _ ?_);clear hK K)|refine vr [] fun K hK=>?_|(refine aqa fun K' hK'=>?_;simp;repeat'(first|(apply hK';clear hK' K')|refine Ret.use sort_none ?_|refine Ret.use compact_none ?_|fail))|apply aqc|refine sp ?_|fail)
   exact .inl ⟨by simp [hf],aqh hr⟩
theorem fq3 {l:List Int} {f:FuncId} {caps:List AV} {p:Int->Bool} {H:Heap} (hl:aqz l) (hp:PredI w0 f caps l p H):
  bqp Tryz.prog w0 97 [ints l,.clo f [] caps] (B (l.any p)) H:=by
 refine .of ?_
 have hi:=idxI_any p l
 refine aqf Tryz.func97 rfl Tryz.ntmps97 (ts:=[4]) rfl (by simp) (by kernel_rfl) ?_
 repeat'(first|(with_reducible (refine aqd (hK _ _ ?_);clear hK K))|(with_reducible refine vr [] fun K hK=>?_)|((with_reducible refine aqa fun K' hK'=>?_);simp[ints];repeat'(first|(with_reducible (apply hK';clear hK' K'))|((with_reducible refine bqp.use (jqb hl hp) ?_;try simp);try simp[ints])|fail))|(with_reducible first|apply aqc|refine sp ?_)|fail)
 simp [hi]
def colB (p n:Int) (c:List Int):Bool:=decide ((c.length:Int)=n)&&c.all fun x=>decide (0<=x)&&decide (x<p)
def mayE (p n:Int) (cols:List (List Int)):Bool:=bqg p&&decide (0<=n)&&decide (n<=64)&&decide (cols.length<=64)&&cols.all (colB p n)
theorem may11_at {x p:Int} {r:Nat} {H:Heap} (hr:H r=some (.box [I p])):bqp Tryz.prog w0 212 [I x,.ptr r 0 0] (B (!(decide (0<=x)&&decide (x<p)))) H:=by
 refine .of ?_
 refine aqf Tryz.func212 rfl Tryz.ntmps212 (ts:=[3]) rfl (by simp) (by kernel_rfl) ?_
 repeat'(with_reducible first|(refine aqd (hK _ _ ?_);clear hK K)|refine vr [] fun K hK=>?_|((first|refine aqa fun K' hK'=>?_|(apply aqk;refine aqe rfl fun K' hK'=>?_));simp[hr];repeat'(first|(apply hK';clear hK' K')|refine And.intro ?_ ?_|intro hg|fail))|apply aqc|refine sp ?_|fail)
 ·have h0:0<=x:=by omega
  by_cases h1:x<p
  ·have h2:¬p<=x:=by omega
   simp [h0,h1,h2]
  ·have h2:p<=x:=by omega
   simp [h0,h1,h2]
 ·have h0:¬0<=x:=by omega
  simp [h0]
theorem may1E_at {c:List Int} {p n:Int} {r s:Nat} {H:Heap} (hc:aqz c) (hs:H s=some (.box [I n])) (hr:H r=some (.box [I p])):bqp Tryz.prog w0 211 [ints c,.ptr s 0 0,.ptr r 0 0] (B (!colB p n c)) H:=by
 refine .of ?_
 have hcs:=fq3 (w0:=w0) (l:=c) (H:=H) hc (fun x _=>may11_at (x:=x) hr)
 have ha:(c.any fun x=> !(decide (0<=x)&&decide (x<p)))= !(c.all fun x=>decide (0<=x)&&decide (x<p)):=by
  rw [List.all_eq_not_any_not];simp
 rw [ha] at hcs
 refine aqf Tryz.func211 rfl Tryz.ntmps211 (ts:=[4]) rfl (by simp) (by kernel_rfl) ?_
 by_cases e:(c.length:Int)=n
 ·repeat'(first|(with_reducible (refine aqd (hK _ _ ?_);clear hK K))|(with_reducible refine vr [] fun K hK=>?_)|((with_reducible first|refine aqa fun K' hK'=>?_|(apply aqk;refine aqe rfl fun K' hK'=>?_));simp[ints,hs,e];repeat'(first|(with_reducible (apply hK';clear hK' K'))|((with_reducible refine bqp.use hcs ?_;try simp);try simp[ints,hs,e])|fail))|(with_reducible first|apply aqc|refine sp ?_)|fail)
  simp [colB,e]
 ·repeat'(with_reducible first|(refine aqd (hK _ _ ?_);clear hK K)|refine vr [] fun K hK=>?_|((first|refine aqa fun K' hK'=>?_|(apply aqk;refine aqe rfl fun K' hK'=>?_));simp[ints,hs,e];repeat'(first|(apply hK';clear hK' K')|fail))|apply aqc|refine sp ?_|fail)
  simp [colB,e]
set_option maxHeartbeats 1000000 in
theorem gq6 {p n:Int} {cols:List (List Int)} (hp:p<=100) (hc:aqz cols) (hl:∀ c∈cols,aqz c):Ret Tryz.prog w0 194 [I p,I n,rows cols] (B (mayE p n cols)):=by
 intro H
 have c1:=prime_ret (w0:=w0) hp
 refine aqf Tryz.func194 rfl Tryz.ntmps194 (ts:=[6]) rfl (by simp) (by kernel_rfl) ?_
 repeat'(with_reducible first|(refine aqd (hK _ _ ?_);clear hK K)|((fail_if_success(refine aql 1 ?_));(fail_if_success(refine(?_:AWP _ _ _ (Code.region 1 _ _) _ _ _)));refine vr [] fun K hK=>?_)|(refine aqa fun K' hK'=>?_;simp;repeat'(first|(apply hK';clear hK' K')|intro hg|fail))|((fail_if_success(refine aql 1 ?_));refine sp ?_)|fail)
 rename_i a ha b
 have hba:b≠a:=by rintro rfl;simp at hg
 have hb:H b=none:=by rw [if_neg hba] at hg;exact hg
 clear hg
 obtain ⟨h,hh⟩:∃ h,h=upd (upd H a (some (.box [I p]))) b (some (.box [I n])):=⟨_,rfl⟩
 have la:h a=some (.box [I p]):=by rw [hh,aqm _ _ _ hba.symm,aqj]
 have lb:h b=some (.box [I n]):=by rw [hh,aqj]
 have hsub:Sub H h:=by rw [hh];exact ((Sub.refl _).upd ha _).upd hb _
 rw [<-hh]
 clear hh
 have hcs:=cqx (w0:=w0) (ls:=cols) (H:=h) hc (fun c hcm=>may1E_at (c:=c) (hl c hcm) lb la)
 have ha':(cols.any fun c=> !colB p n c)= !(cols.all (colB p n)):=by rw [List.all_eq_not_any_not];simp
 rw [ha'] at hcs
 cases hpb:bqg p with
 | false=>
  rw [hpb] at c1
  repeat'(with_reducible first|(refine aqd (hK _ _ ?_);clear hK K)|refine vr [] fun K hK=>?_|((first|refine aqa fun K' hK'=>?_|refine aqb fun K' B hK' hB=>?_|(apply aqk;refine aqe rfl fun K' hK'=>?_));simp[la,lb];repeat'(first|((first|refine hK' ?_|refine hB ?_);clear hK' hB K' B)|(apply hK';clear hK' K')|refine Ret.use c1 ?_|fail))|apply aqc|refine sp ?_|fail)
  exact ⟨by simp [mayE,hpb],hsub⟩
 | true=>
 rw [hpb] at c1
 by_cases g1:n<0
 ·repeat'(with_reducible first|(refine aqd (hK _ _ ?_);clear hK K)|refine vr [] fun K hK=>?_|((first|refine aqa fun K' hK'=>?_|refine aqb fun K' B hK' hB=>?_|(apply aqk;refine aqe rfl fun K' hK'=>?_));simp[la,lb,g1];repeat'(first|((first|refine hK' ?_|refine hB ?_);clear hK' hB K' B)|(apply hK';clear hK' K')|refine Ret.use c1 ?_|fail))|apply aqc|refine sp ?_|fail)
  have:¬0<=n:=by omega
  exact ⟨by simp [mayE,this],hsub⟩
 by_cases g2:64<n
 ·repeat'(with_reducible first|(refine aqd (hK _ _ ?_);clear hK K)|refine vr [] fun K hK=>?_|((first|refine aqa fun K' hK'=>?_|refine aqb fun K' B hK' hB=>?_|(apply aqk;refine aqe rfl fun K' hK'=>?_));simp[la,lb,g1,g2];repeat'(first|((first|refine hK' ?_|refine hB ?_);clear hK' hB K' B)|(apply hK';clear hK' K')|refine Ret.use c1 ?_|fail))|apply aqc|refine sp ?_|fail)
  have:¬n<=64:=by omega
  exact ⟨by simp [mayE,this],hsub⟩
 by_cases g3:(64:Int)<cols.length
 ·repeat'(with_reducible first|(refine aqd (hK _ _ ?_);clear hK K)|refine vr [] fun K hK=>?_|((first|refine aqa fun K' hK'=>?_|refine aqb fun K' B hK' hB=>?_|(apply aqk;refine aqe rfl fun K' hK'=>?_));simp[la,lb,g1,g2,g3,rows];repeat'(first|((first|refine hK' ?_|refine hB ?_);clear hK' hB K' B)|(apply hK';clear hK' K')|refine Ret.use c1 ?_|fail))|apply aqc|refine sp ?_|fail)
  have:¬cols.length<=64:=by omega
  exact ⟨by simp [mayE,this],hsub⟩
 ·repeat'(first|(with_reducible (refine aqd (hK _ _ ?_);clear hK K))|(with_reducible refine vr [] fun K hK=>?_)|((with_reducible first|refine aqa fun K' hK'=>?_|refine aqb fun K' B hK' hB=>?_|(apply aqk;refine aqe rfl fun K' hK'=>?_));simp[la,lb,g1,g2,g3,rows];repeat'(first|(with_reducible first|((first|refine hK' ?_|refine hB ?_);clear hK' hB K' B)|(apply hK';clear hK' K')|refine Ret.use c1 ?_)|((with_reducible refine bqp.use hcs ?_;try simp);try simp[la,lb,g1,g2,g3,rows])|fail))|(with_reducible first|apply aqc|refine sp ?_)|fail)
  have h1:0<=n:=by omega
  have h2:n<=64:=by omega
  have h3:cols.length<=64:=by omega
  exact ⟨by simp [mayE,hpb,h1,h2,h3],hsub⟩
theorem cloneN_ret:Ret Tryz.prog w0 88 [.sl [] 0] (.sl [] 0):=by
 intro H
 refine cq4 ?_
 refine fq5 (l:=[]) (by simp) (fun _=> .inl ⟨rfl,.refl _⟩) (fun r hr=> ?_)
 exact .inr ⟨r,0,0,0,1,3,[],rfl,aqj _ _ _,by simp,by rw [aqx];exact aqh hr⟩
theorem reduce_zero {b:Nat} {p:Int} {H:Heap} (hb:H b=some (.box [I p,.sc (.slice none 0 0)])) {K:AV->Heap->Prop} (k:∀ T,H T=none->K (.tup [.sl [] 0,.mp T]) (upd H T (some (.mapI [])))):aqo Tryz.prog w0 225 [.ptr b 0 0,.sl [] 0] H K:=by
 refine (?_:aqo Tryz.prog w0 225 [.ptr b 0 0,.sl [] 0] H (fun v H'=>∃ T,H T=none/\v= .tup [.sl [] 0,.mp T]/\Sub (upd H T (some (.mapI []))) H')).drop ?_
 rotate_left
 ·rintro v H' ⟨T,h1,rfl,hs⟩;exact ⟨_,hs,k T h1⟩
 refine aqf Tryz.func225 rfl Tryz.ntmps225 (ts:=[4,5]) rfl (by simp) (by kernel_rfl) ?_
 repeat'(with_reducible first|(refine sp (hK _ _ ?_);clear hK K)|((fail_if_success(refine aql 3 ?_));(fail_if_success(refine(?_:AWP _ _ _ (Code.region 3 _ _) _ _ _)));refine vr [] fun K hK=>?_)|(refine aqa fun K' hK'=>?_;simp;repeat'(first|(apply hK';clear hK' K')|refine Ret.use cloneN_ret ?_|intro hg|fail))|((fail_if_success(refine aql 3 ?_));refine sp ?_)|fail)
 rename_i T
 have hT:H T=none:=hg
 have hbT:b≠T:=by rintro rfl;rw [hb] at hT;cases hT
 repeat'(with_reducible first|(refine sp (hK _ _ ?_);clear hK K)|refine vr [] fun K hK=>?_|(refine aqa fun K' hK'=>?_;simp[hb,hbT];repeat'(first|(apply hK';clear hK' K')|fail))|refine sp ?_|fail)
 refine aqi (fun env h=>env 22=I 0/\env 21=I 0/\env 1= .sl [] 0/\env 6= .mp T/\h=upd H T (some (.mapI []))) (fun env _=>0) ?_ ?_
 ·exact ⟨by simp,by simp,by simp,by simp,rfl⟩
 rintro env h' ⟨h22,h21,h1,h6,rfl⟩
 repeat'(with_reducible first|(refine sp (hK _ _ ?_);clear hK K)|refine vr [] fun K hK=>?_|((first|refine aqa fun K' hK'=>?_|refine aqb fun K' B hK' hB=>?_);simp[h22,h21,h1,h6];repeat'(first|((first|refine hK' ?_|refine hB ?_);clear hK' hB K' B)|(apply hK';clear hK' K')|fail))|apply aqc|refine sp ?_|fail)
 exact ⟨T,hT,by simp,Sub.refl _⟩
theorem add_zero {b ix:Nat} {p:Int} {H:Heap} (hb:H b=some (.box [I p,.sc (.slice none 0 0)])) {K:AV->Heap->Prop} (k:K (B false) H):aqo Tryz.prog w0 222 [.ptr b 0 0,I ix,.sl [] 0] H K:=by
 refine (?_:aqo Tryz.prog w0 222 [.ptr b 0 0,I ix,.sl [] 0] H (fun v H'=>v=B false/\Sub H H')).drop ?_
 rotate_left
 ·rintro v H' ⟨rfl,hs⟩;exact ⟨_,hs,k⟩
 refine aqf Tryz.func222 rfl Tryz.ntmps222 (ts:=[6]) rfl (by simp) (by kernel_rfl) ?_
 repeat'(first|(with_reducible (refine sp (hK _ _ ?_);clear hK K))|(with_reducible refine vr [] fun K hK=>?_)|((with_reducible first|refine aqa fun K' hK'=>?_|refine aqb fun K' B hK' hB=>?_);simp;repeat'(first|(with_reducible first|((first|refine hK' ?_|refine hB ?_);clear hK' hB K' B)|(apply hK';clear hK' K')|refine Ret.use lq0 ?_)|((with_reducible refine reduce_zero hb (fun T hT=> ?_));try simp)|fail))|(with_reducible first|apply aqc|refine sp ?_)|fail)
 exact ⟨by simp,(Sub.refl _).upd hT _⟩
structure ClimbI (H h:Heap) (b O:Nat) (p:Int) (n:Nat) (cols:List (List Int)) (st:List (Nat×List Int×List (Int×Int))):Prop where
 hs:StOK p n (stV st)
 len:st.length<=cols.length
 kv:∀ s∈st,kvOK p s.2.2
 stair:StairH h b p st
 hA:∀ A,h b=some (.box [I p,.ref A 0 st.length st.length])->H A=none
 hO:h O=some (.arr 1 3 ((accL p n cols).map I) (accL p n cols).length)
 bO:b≠O
 Hb:H b=none
 HO:H O=none
 sub:Sub H h
 to:∀ u,dqm (stV st) u->Spn p n (fun u=>∃ y∈cols,u=vec y) u
 fro:∀ y∈cols,Spn p n (dqm (stV st)) (vec y)
 zero:n=0->st=[]
theorem climb_use {p:Int} {n:Nat} {cols:List (List Int)} (hp:p<=100) (hpr:bqg p=true) (hn:n<=64) (hm:cols.length<=64) (hc:∀ c∈cols,gq8 p n c) {H:Heap} {K:AV->Heap->Prop}
  (k:∀ b,K (.tup [.ptr b 0 0,ints (accL p n cols)]) H):aqo Tryz.prog w0 215 [I p,rows cols] H K:=by
 refine (?_:aqo Tryz.prog w0 215 [I p,rows cols] H (fun v H'=>∃ b,v= .tup [.ptr b 0 0,ints (accL p n cols)]/\Sub H H')).drop ?_
 rotate_left
 ·rintro v H' ⟨b,rfl,hs⟩;exact ⟨_,hs,k b⟩
 refine aqf Tryz.func215 rfl Tryz.ntmps215 (ts:=[4,5]) rfl (by simp) (by kernel_rfl) ?_
 repeat'(with_reducible first|(refine aqd (hK _ _ ?_);clear hK K)|((fail_if_success(refine aql 4 ?_));(fail_if_success(refine(?_:AWP _ _ _ (Code.region 4 _ _) _ _ _)));refine vr [7] fun K hK=>?_)|(refine aqa fun K' hK'=>?_;simp[rows];repeat'(first|(apply hK';clear hK' K')|intro hg|fail))|((fail_if_success(refine aql 4 ?_));refine sp ?_)|fail)
 rename_i b hb O
 have hOb:O≠b:=by rintro rfl;simp at hg
 have hO:H O=none:=by rw [if_neg hOb] at hg;exact hg
 clear hg
 refine aqi (fun env h=>∃ (q:Nat) (st:List (Nat×List Int×List (Int×Int))),q<=cols.length/\ClimbI H h b O p n (cols.take q) st/\env 15=I q/\env 14=I cols.length/\env 13=rows cols/\env 6= .ptr b 0 0/\
   env 7= .ref O 0 (accL p n (cols.take q)).length (accL p n (cols.take q)).length) (fun env _=>cols.length-natA (env 15)) ?_ ?_
 ·refine ⟨0,[],by omega,⟨⟨by simp [stV],by simp [stV]⟩,by simp,by simp,.inl ⟨rfl,?_⟩,fun A hA=> ?_,?_,hOb.symm,hb,hO,?_,fun u ⟨s,hs,_⟩=>by simp [stV] at hs,by simp,fun _=>rfl⟩,by simp,by simp,by simp [rows],by simp,by simp [accL,bq4]⟩
  ·rw [aqm _ _ _ hOb.symm,aqj]
  ·rw [aqm _ _ _ hOb.symm,aqj] at hA;simp at hA
  ·rw [aqj];simp [accL,bq4]
  ·exact ((Sub.refl _).upd hb _).upd hO _
 rintro env h ⟨q,st,hq,C,h15,h14,h13,h6,h7⟩
 have hnat:natA (env 15)=q:=by simp [h15]
 rw [hnat];clear hnat
 by_cases hlt:q<cols.length
 ·have hcq:=hc cols[q] (List.getElem_mem _)
  have htk:cols.take (q+1)=cols.take q++[cols[q]]:=List.take_succ_eq_append_getElem hlt
  have hacc:=kqz (p:=p) (n:=n) (cols.take q) cols[q]
  have htl:(cols.take q).length=q:=by rw [List.length_take];omega
  rw [<-htk,htl] at hacc
  have hsp:Spn p n (dqm (stV st)) (vec cols[q])↔Spn p n (fun u=>∃ y∈cols.take q,u=vec y) (vec cols[q]):=
   ⟨fun h=>h.trans C.to,fun h=>h.trans fun u ⟨y,hy,e⟩=>e▸C.fro y hy⟩
  have hstl:=C.len
  rw [htl] at hstl
  have hO':=C.hO
  have hal:=Classical.em True
  have hlenacc:(accL p n (cols.take q)).length<=q:=by
   have:(accL p n (cols.take q)).length<=(upto (cols.take q).length).length:=List.length_filter_le _ _
   rw [aqv,htl] at this
   exact this
  clear hal
  generalize hcc:cols[q]=c at *
  have hno:∀ st',(Spn p n (fun u=>∃ y∈cols.take q,u=vec y) (vec c))->ClimbI H h b O p n (cols.take q) st'->ClimbI H h b O p n (cols.take (q+1)) st'/\accL p n (cols.take (q+1))=accL p n (cols.take q):=fun st' hs C'=>by
   have e:accL p n (cols.take (q+1))=accL p n (cols.take q):=by rw [hacc,if_pos hs,List.append_nil]
   refine ⟨⟨C'.hs,by rw [htk];have:=C'.len;simp;omega,C'.kv,C'.stair,C'.hA,by rw [e];exact C'.hO,C'.bO,C'.Hb,C'.HO,C'.sub,fun u hu=>(C'.to u hu).mono fun v ⟨y,hy,e⟩=>⟨y,by rw [htk];simp [hy],e⟩,fun y hy=> ?_,C'.zero⟩,e⟩
   rw [htk,List.mem_append,List.mem_singleton] at hy
   rcases hy with hy | rfl
   ·exact C'.fro y hy
   ·exact hs.trans fun u ⟨y,hy,e⟩=>e▸C'.fro y hy
  by_cases hn0:n=0
  ·have hc0:c=[]:=List.eq_nil_of_length_eq_zero (by have:=hcq.len;omega)
   have hst0:=C.zero hn0
   have hbz:h b=some (.box [I p,.sc (.slice none 0 0)]):=by
    rcases C.stair with ⟨_,h1⟩ | ⟨h1,_⟩
    ·exact h1
    ·exact absurd hst0 h1
   obtain ⟨C1,e1⟩:=hno st (.zero fun i hi=>by omega) C
   have hc0':∀ h:q<cols.length,cols[q]'h=[]:=fun _=>by rw [hcc,hc0]
   repeat'(first|(with_reducible (refine aqd (hK _ _ ?_);clear hK K))|(with_reducible refine vr [] fun K hK=>?_)|((with_reducible first|refine aqa fun K' hK'=>?_|refine aqb fun K' B hK' hB=>?_);simp[h15,h14,h13,h6,h7,rows,hlt,hc0',ints];repeat'(first|(with_reducible first|((first|refine hK' ?_|refine hB ?_);clear hK' hB K' B)|(apply hK';clear hK' K'))|((with_reducible refine add_zero hbz ?_;try simp);try simp[h15,h14,h13,h6,h7,rows,hlt,hc0',ints])|(with_reducible refine And.intro ?_ ?_)|(clear hK' K';omega)))|(with_reducible refine sp ?_)|fail)
   exact ⟨⟨q+1,st,by omega,C1,by simp,by simp [h14],by simp [h13,rows],by simp [h6],by rw [e1];simp [h7]⟩,by simp;omega⟩
  ·have hcq':∀ h:q<cols.length,cols[q]'h=c:=fun _=>hcc
   repeat'(first|(with_reducible (refine aqd (hK _ _ ?_);clear hK K))|((fail_if_success(with_reducible refine aql 7 ?_));(fail_if_success(with_reducible refine(?_:AWP _ _ _ (Code.region 7 _ _) _ _ _)));with_reducible refine vr [] fun K hK=>?_)|((with_reducible first|refine aqa fun K' hK'=>?_|refine aqb fun K' B hK' hB=>?_);simp[h15,h14,h13,h6,h7,rows,hlt,hcq',ints];repeat'(first|(with_reducible first|((first|refine hK' ?_|refine hB ?_);clear hK' hB K' B)|(apply hK';clear hK' K'))|((with_reducible refine add_use hp hpr C.hs hcq hn (by omega) (by omega) C.kv C.stair (fun hs1=> ?_) (fun A s a1 a2 a3 a4 a5 a6 a7=> ?_));try simp[h15,h14,h13,h6,h7,rows,hlt,hcq',ints])|(with_reducible refine And.intro ?_ ?_)|(clear hK' K';omega)))|((fail_if_success(with_reducible refine aql 7 ?_));with_reducible refine sp ?_)|fail)
   ·obtain ⟨C1,e1⟩:=hno st (hsp.1 hs1) C
    exact ⟨⟨q+1,st,by omega,C1,by simp,by simp [h14],by simp [h13,rows],by simp [h6],by rw [e1];simp [h7]⟩,by simp;omega⟩
   ·have hOA:O≠A:=by
     rintro rfl
     rcases a7 with a7 | ⟨cells,_,a7⟩
     ·rw [hO'] at a7;cases a7
     ·rw [hO'] at a7;simp at a7
    have hHA:H A=none:=by
     rcases a7 with a7 | ⟨cells,a7,_⟩
     ·cases e:H A with
      | none=>rfl
      | some k=>have:=C.sub _ _ e;rw [a7] at this;cases this
     ·exact C.hA A a7
    have hacc':accL p n (cols.take (q+1))=accL p n (cols.take q)++[(q:Int)]:=by rw [hacc,if_neg fun k=>a1 (hsp.2 k)]
    repeat'(with_reducible first|(refine aqd (hK _ _ ?_);clear hK K)|refine vr [] fun K hK=>?_|(refine aqa fun K' hK'=>?_;simp[h15,h14,h13,h6,h7,hOb,hOA,hO',rows];repeat'(first|(apply hK';clear hK' K')|refine And.intro ?_ ?_|(clear hK' K';omega)))|refine sp ?_|fail)
    all_goals try omega
    refine ⟨⟨q+1,st++[s],by omega,⟨a2,by rw [htk];simp;omega,fun x hx=> ?_,.inr ⟨by simp,A,a6,?_,?_⟩,fun A' hA'=> ?_,?_,hOb.symm,C.Hb,C.HO,?_,fun u hu=> ?_,fun y hy=> ?_,fun h0=>absurd h0 hn0⟩,by simp,by simp [h14],by simp [h13,rows],by simp [h6],by rw [hacc'];simp⟩,by simp;omega⟩
    ·rcases List.mem_append.1 hx with hx | hx
     ·exact C.kv x hx
     ·rw [List.mem_singleton.1 hx];exact a5
    ·rw [aqm _ _ _ hOb.symm,aqj];simp
    ·rw [aqm _ _ _ hOA.symm,aqm _ _ _ a6,aqj];simp
    ·rw [aqm _ _ _ hOb.symm,aqj] at hA'
     simp at hA'
     rw [<-hA'];exact hHA
    ·rw [aqj,hacc'];simp
    ·exact ((C.sub.upd hHA _).upd C.Hb _).upd C.HO _
    ·refine (a3 u hu).trans fun v hv=> ?_
     rcases hv with hv | rfl
     ·exact (C.to v hv).mono fun v ⟨y,hy,e⟩=>⟨y,by rw [htk];simp [hy],e⟩
     ·exact .of ⟨c,by rw [htk];simp,rfl⟩
    ·rw [htk,List.mem_append,List.mem_singleton] at hy
     rcases hy with hy | rfl
     ·exact (C.fro y hy).mono fun v ⟨t,ht,e⟩=>⟨t,by simp only [stV,List.map_append,List.mem_append] at ht ⊢;exact .inl ht,e⟩
     ·exact a4
 ·have:q=cols.length:=by omega
  subst this
  rw [List.take_length] at C h7
  refine eqx 7 (r:=O) (off:=0) (len:=(accL p n cols).length) (top:=(accL p n cols).length) (by simp [h7]) C.hO ?_
  have hcx:cut 1 ((accL p n cols).map I) 0 (accL p n cols).length=ints (accL p n cols):=bqw I _
  rw [hcx]
  have hs2:Sub H (upd h O none):=fun r k hr=>by
   have:r≠O:=by rintro rfl;rw [C.HO] at hr;cases hr
   rw [aqm _ _ _ this];exact C.sub r k hr
  repeat'(with_reducible first|(refine aqd (hK _ _ ?_);clear hK K)|refine vr [] fun K hK=>?_|((first|refine aqa fun K' hK'=>?_|refine aqb fun K' B hK' hB=>?_);simp[h15,h14,h6];repeat'(first|((first|refine hK' ?_|refine hB ?_);clear hK' hB K' B)|(apply hK';clear hK' K')|fail))|apply aqc|refine sp ?_|fail)
  exact ⟨b,by simp [ints],hs2⟩
theorem mq7 {p n:Int} {cols:List (List Int)} (h:mayE p n cols=true):∃ m:Nat,n=m/\m<=64/\cols.length<=64/\bqg p=true/\∀ c∈cols,gq8 p m c:=by
 simp only [mayE,Bool.and_eq_true,decide_eq_true_eq,List.all_eq_true] at h
 obtain ⟨⟨⟨⟨h1,h2⟩,h3⟩,h4⟩,h5⟩:=h
 obtain ⟨m,rfl⟩:=Int.eq_ofNat_of_zero_le h2
 refine ⟨m,rfl,by omega,h4,h1,fun c hc=> ?_⟩
 have:=h5 c hc
 simp only [colB,Bool.and_eq_true,decide_eq_true_eq,List.all_eq_true] at this
 refine ⟨by omega,fun i hi=> ?_⟩
 have hi':i<c.length:=by omega
 have:=this.2 c[i] (List.getElem_mem _)
 simpa [List.getD_eq_getElem?_getD,List.getElem?_eq_getElem hi'] using this
theorem basis_ret {p:Int} {n:Nat} {cols:List (List Int)} (hp:p<=100) (h:mayE p n cols=true):Ret Tryz.prog w0 200 [I p,I n,rows cols] (ints (accL p n cols)):=by
 intro H
 obtain ⟨m,e,h1,h2,h3,h4⟩:=mq7 h
 obtain rfl:n=m:=by omega
 have c1:=gq6 (w0:=w0) (p:=p) (n:=n) (cols:=cols) hp (by simp only [aqz];omega) (fun c hc=>by have:=(h4 c hc).len;simp only [aqz];omega)
 rw [h] at c1
 refine aqf Tryz.func200 rfl Tryz.ntmps200 (ts:=[6]) rfl (by simp) (by kernel_rfl) ?_
 repeat'(first|(with_reducible (refine aqd (hK _ _ ?_);clear hK K))|(with_reducible refine vr [] fun K hK=>?_)|((with_reducible first|refine aqa fun K' hK'=>?_|refine aqb fun K' B hK' hB=>?_);simp[rows];repeat'(first|(with_reducible first|((first|refine hK' ?_|refine hB ?_);clear hK' hB K' B)|(apply hK';clear hK' K')|refine Ret.use c1 ?_)|((with_reducible refine climb_use hp h3 h1 h2 h4 (fun b=> ?_));try simp[rows])|fail))|(with_reducible first|apply aqc|refine sp ?_)|fail)
 simp [ints]
theorem elimRank_ret {p:Int} {n:Nat} {cols:List (List Int)} (hp:p<=100) (h:mayE p n cols=true):Ret Tryz.prog w0 177 [I p,I n,rows cols] (I (accL p n cols).length):=by
 intro H
 obtain ⟨m,e,h1,h2,h3,h4⟩:=mq7 h
 obtain rfl:n=m:=by omega
 have c1:=gq6 (w0:=w0) (p:=p) (n:=n) (cols:=cols) hp (by simp only [aqz];omega) (fun c hc=>by have:=(h4 c hc).len;simp only [aqz];omega)
 rw [h] at c1
 have c2:=basis_ret (w0:=w0) hp h
 refine aqf Tryz.func177 rfl Tryz.ntmps177 (ts:=[6]) rfl (by simp) (by kernel_rfl) ?_
 repeat'(with_reducible first|(refine aqd (hK _ _ ?_);clear hK K)|refine vr [] fun K hK=>?_|((first|refine aqa fun K' hK'=>?_|refine aqb fun K' B hK' hB=>?_);simp[rows,ints];repeat'(first|((first|refine hK' ?_|refine hB ?_);clear hK' hB K' B)|(apply hK';clear hK' K')|refine Ret.use c1 ?_|refine Ret.use c2 ?_|fail))|apply aqc|refine sp ?_|fail)
 simp
def resB (p x:Int):Bool:=decide (0<=x)&&decide (x<p)
theorem colB_eq (p n:Int) (c:List Int):colB p n c=(decide ((c.length:Int)=n)&&c.all (resB p)):=rfl
set_option maxHeartbeats 1000000 in
theorem may5_ret {p n:Int} {cols:List (List Int)} (hp:p<=100) (hc:aqz cols) (hl:∀ c∈cols,aqz c):Ret Tryz.prog w0 157 [I p,I n,rows cols] (B (mayE p n cols)):=by
 intro H
 have c1:=lqj (w0:=w0) hp
 refine aqf Tryz.func157 rfl Tryz.ntmps157 (ts:=[6]) rfl (by simp) (by kernel_rfl) ?_
 cases hpb:bqg p with
 | false=>
  rw [hpb] at c1
  repeat'(with_reducible first|(refine aqd (hK _ _ ?_);clear hK K)|refine vr [] fun K hK=>?_|((first|refine aqa fun K' hK'=>?_|refine aqb fun K' B hK' hB=>?_|(apply aqk;refine aqe rfl fun K' hK'=>?_));simp;repeat'(first|((first|refine hK' ?_|refine hB ?_);clear hK' hB K' B)|(apply hK';clear hK' K')|refine Ret.use c1 ?_|fail))|apply aqc|refine sp ?_|fail)
  simp [mayE,hpb]
 | true=>
 rw [hpb] at c1
 by_cases g1:n<0
 ·repeat'(with_reducible first|(refine aqd (hK _ _ ?_);clear hK K)|refine vr [] fun K hK=>?_|((first|refine aqa fun K' hK'=>?_|refine aqb fun K' B hK' hB=>?_|(apply aqk;refine aqe rfl fun K' hK'=>?_));simp[g1];repeat'(first|((first|refine hK' ?_|refine hB ?_);clear hK' hB K' B)|(apply hK';clear hK' K')|refine Ret.use c1 ?_|fail))|apply aqc|refine sp ?_|fail)
  have:¬0<=n:=by omega
  simp [mayE,this]
 by_cases g2:64<n
 ·repeat'(with_reducible first|(refine aqd (hK _ _ ?_);clear hK K)|refine vr [] fun K hK=>?_|((first|refine aqa fun K' hK'=>?_|refine aqb fun K' B hK' hB=>?_|(apply aqk;refine aqe rfl fun K' hK'=>?_));simp[g1,g2];repeat'(first|((first|refine hK' ?_|refine hB ?_);clear hK' hB K' B)|(apply hK';clear hK' K')|refine Ret.use c1 ?_|fail))|apply aqc|refine sp ?_|fail)
  have:¬n<=64:=by omega
  simp [mayE,this]
 by_cases g3:(64:Int)<cols.length
 ·repeat'(with_reducible first|(refine aqd (hK _ _ ?_);clear hK K)|refine vr [] fun K hK=>?_|((first|refine aqa fun K' hK'=>?_|refine aqb fun K' B hK' hB=>?_|(apply aqk;refine aqe rfl fun K' hK'=>?_));simp[g1,g2,g3,rows];repeat'(first|((first|refine hK' ?_|refine hB ?_);clear hK' hB K' B)|(apply hK';clear hK' K')|refine Ret.use c1 ?_|fail))|apply aqc|refine sp ?_|fail)
  have:¬cols.length<=64:=by omega
  simp [mayE,this]
 repeat'(with_reducible first|(refine aqd (hK _ _ ?_);clear hK K)|refine vr [] fun K hK=>?_|((first|refine aqa fun K' hK'=>?_|refine aqb fun K' B hK' hB=>?_|(apply aqk;refine aqe rfl fun K' hK'=>?_));simp[g1,g2,g3,rows];repeat'(first|((first|refine hK' ?_|refine hB ?_);clear hK' hB K' B)|(apply hK';clear hK' K')|refine Ret.use c1 ?_|fail))|refine sp ?_|fail)
 have hall:mayE p n cols=cols.all (colB p n):=by
  have h1:0<=n:=by omega
  have h2:n<=64:=by omega
  have h3:cols.length<=64:=by omega
  simp [mayE,hpb,h1,h2,h3]
 refine aqi (fun env h=>∃ q:Nat,q<=cols.length/\(∀ c∈cols.take q,colB p n c=true)/\env 7=I q/\env 0=I p/\env 1=I n/\env 2=rows cols/\h=H) (fun env _=>cols.length-natA (env 7)) ?_ ?_
 ·exact ⟨0,by omega,by simp,by simp,by simp,by simp,by simp [rows],rfl⟩
 rintro env h ⟨q,hq,hok,h7,h0,h1,h2,rfl⟩
 have hnat:natA (env 7)=q:=by simp [h7]
 rw [hnat];clear hnat
 by_cases hlt:q<cols.length
 ·have hcl:=hl cols[q] (List.getElem_mem _)
  have hmem:cols[q]∈cols:=List.getElem_mem _
  have hcq:∀ h:q<cols.length,cols[q]'h=cols[q]:=fun _=>rfl
  generalize hcc:cols[q]=c at *
  by_cases e:(c.length:Int)=n
  ·repeat'(with_reducible first|(refine aqd (hK _ _ ?_);clear hK K)|refine vr [] fun K hK=>?_|((first|refine aqa fun K' hK'=>?_|refine aqb fun K' B hK' hB=>?_);simp[h7,h0,h1,h2,rows,ints,hlt,hcc,e];repeat'(first|((first|refine hK' ?_|refine hB ?_);clear hK' hB K' B)|(apply hK';clear hK' K')|fail))|refine sp ?_|fail)
   refine aqi (fun env h'=>∃ j:Nat,j<=c.length/\(∀ x∈c.take j,resB p x=true)/\env 8=I j/\env 7=I q/\env 0=I p/\env 1=I n/\env 2=rows cols/\h'=h) (fun env _=>c.length-natA (env 8)) ?_ ?_
   ·exact ⟨0,by omega,by simp,by simp,by simp [h7],by simp [h0],by simp [h1],by simp [h2,rows],rfl⟩
   clear h7 h0 h1 h2
   rintro env h' ⟨j,hj,hokj,h8,h7,h0,h1,h2,rfl⟩
   have hnat:natA (env 8)=j:=by simp [h8]
   rw [hnat];clear hnat
   by_cases hjl:j<c.length
   ·have hjn:(j:Int)<n:=by omega
    have hbad:resB p c[j]=false->mayE p n cols=false:=fun h=>by
     rw [hall,List.all_eq_false]
     refine ⟨c,hmem,?_⟩
     rw [colB_eq,Bool.and_eq_true,List.all_eq_true]
     rintro ⟨_,k⟩
     have:=k c[j] (List.getElem_mem _)
     rw [h] at this;cases this
    have hxj:∀ h:j<c.length,c[j]'h=c[j]:=fun _=>rfl
    generalize hx:c[j]=x at *
    by_cases a1:x<0
    ·repeat'(with_reducible first|(refine aqd (hK _ _ ?_);clear hK K)|refine vr [] fun K hK=>?_|((first|refine aqa fun K' hK'=>?_|refine aqb fun K' B hK' hB=>?_|(apply aqk;refine aqe rfl fun K' hK'=>?_));simp[h8,h7,h0,h1,h2,rows,ints,hlt,hcc,hjn,hjl,hx,a1];repeat'(first|((first|refine hK' ?_|refine hB ?_);clear hK' hB K' B)|(apply hK';clear hK' K')|fail))|apply aqc|refine sp ?_|fail)
     have:¬0<=x:=by omega
     simp [hbad (by simp [resB,this])]
    by_cases a2:p<=x
    ·repeat'(with_reducible first|(refine aqd (hK _ _ ?_);clear hK K)|refine vr [] fun K hK=>?_|((first|refine aqa fun K' hK'=>?_|refine aqb fun K' B hK' hB=>?_|(apply aqk;refine aqe rfl fun K' hK'=>?_));simp[h8,h7,h0,h1,h2,rows,ints,hlt,hcc,hjn,hjl,hx,a1,a2];repeat'(first|((first|refine hK' ?_|refine hB ?_);clear hK' hB K' B)|(apply hK';clear hK' K')|fail))|apply aqc|refine sp ?_|fail)
     have:¬x<p:=by omega
     simp [hbad (by simp [resB,this])]
    repeat'(with_reducible first|(refine aqd (hK _ _ ?_);clear hK K)|refine vr [] fun K hK=>?_|((first|refine aqa fun K' hK'=>?_|refine aqb fun K' B hK' hB=>?_|(apply aqk;refine aqe rfl fun K' hK'=>?_));simp[h8,h7,h0,h1,h2,rows,ints,hlt,hcc,hjn,hjl,hx,a1,a2];repeat'(first|((first|refine hK' ?_|refine hB ?_);clear hK' hB K' B)|(apply hK';clear hK' K')|refine And.intro ?_ ?_|(clear hK' K';omega)))|refine sp ?_|fail)
    refine ⟨⟨j+1,by omega,fun y hy=> ?_,by simp,by simp [h7],by simp [h0],by simp [h1],by simp [h2,rows],rfl⟩,by simp;omega⟩
    rw [List.take_succ_eq_append_getElem hjl,List.mem_append,List.mem_singleton] at hy
    rcases hy with hy | rfl
    ·exact hokj y hy
    ·rw [hx];simp [resB];omega
   ·have hjn:¬(j:Int)<n:=by omega
    have:j=c.length:=by omega
    subst this
    rw [List.take_length] at hokj
    repeat'(with_reducible first|(refine aqd (hK _ _ ?_);clear hK K)|refine vr [] fun K hK=>?_|((first|refine aqa fun K' hK'=>?_|refine aqb fun K' B hK' hB=>?_);simp[h8,h7,h0,h1,h2,hjn];repeat'(first|((first|refine hK' ?_|refine hB ?_);clear hK' hB K' B)|(apply hK';clear hK' K')|refine And.intro ?_ ?_|(clear hK' K';omega)))|refine sp ?_|fail)
    refine ⟨⟨q+1,by omega,fun y hy=> ?_,by simp,by simp [h0],by simp [h1],by simp [h2],rfl⟩,by simp;omega⟩
    rw [List.take_succ_eq_append_getElem hlt,List.mem_append,List.mem_singleton] at hy
    rcases hy with hy | rfl
    ·exact hok y hy
    ·rw [hcc,colB_eq,Bool.and_eq_true,List.all_eq_true]
     exact ⟨by simp [e],hokj⟩
  ·repeat'(with_reducible first|(refine aqd (hK _ _ ?_);clear hK K)|refine vr [] fun K hK=>?_|((first|refine aqa fun K' hK'=>?_|refine aqb fun K' B hK' hB=>?_);simp[h7,h0,h1,h2,rows,ints,hlt,hcc,e];repeat'(first|((first|refine hK' ?_|refine hB ?_);clear hK' hB K' B)|(apply hK';clear hK' K')|fail))|apply aqc|refine sp ?_|fail)
   have:mayE p n cols=false:=by
    rw [hall,List.all_eq_false]
    exact ⟨c,hmem,by simp [colB,e]⟩
   simp [this]
 ·have:q=cols.length:=by omega
  subst this
  rw [List.take_length] at hok
  have:mayE p n cols=true:=by rw [hall,List.all_eq_true];exact hok
  repeat'(with_reducible first|(refine aqd (hK _ _ ?_);clear hK K)|refine vr [] fun K hK=>?_|((first|refine aqa fun K' hK'=>?_|refine aqb fun K' B hK' hB=>?_);simp[h7,h0,h1,h2,rows];repeat'(first|((first|refine hK' ?_|refine hB ?_);clear hK' hB K' B)|(apply hK';clear hK' K')|fail))|apply aqc|refine sp ?_|fail)
  simp [this]
def numB (l:List Int) (many most:Int):Bool:=(l.all fun x=>decide (0<=x)&&decide (x<=most))&&decide ((l.length:Int)=many)
theorem mqz {l:List Int} {many most:Int} (hl:aqz l):Ret Tryz.prog w0 155 [ints l,I many,I most] (B (numB l many most)):=by
 intro H
 refine aqf Tryz.func155 rfl Tryz.ntmps155 (ts:=[6]) rfl (by simp) (by kernel_rfl) ?_
 repeat'(with_reducible first|(refine aqd (hK _ _ ?_);clear hK K)|refine vr [2] fun K hK=>?_|(refine aqa fun K' hK'=>?_;simp[ints];repeat'(first|(apply hK';clear hK' K')|fail))|refine sp ?_|fail)
 refine aqi (fun env h=>∃ q:Nat,q<=l.length/\h=H/\(∀ x∈l.take q,0<=x/\x<=most)/\env 7=I q/\env 0=ints l/\env 1=I many/\env 2=I most) (fun env _=>l.length-natA (env 7)) ?_ ?_
 ·exact ⟨0,by omega,rfl,by simp,by simp,by simp [ints],by simp,by simp⟩
 rintro env h ⟨q,hq,rfl,hf,h7,h0,h1,h2⟩
 have hnat:natA (env 7)=q:=by simp [h7]
 rw [hnat];clear hnat
 by_cases g1:q<l.length
 ·obtain ⟨x,hx'⟩:∃ x,l[q]=x:=⟨_,rfl⟩
  have hxm:x∈l:=by rw [<-hx'];exact List.getElem_mem _
  have htk:l.take (q+1)=l.take q++[x]:=by rw [List.take_succ_eq_append_getElem g1,hx']
  have hgx:∀ h,l[q]'h=x:=fun _=>hx'
  have hgo:l[q]? =some x:=by simp [g1,hx']
  by_cases k1:x<0
  ·repeat'(with_reducible first|(refine aqd (hK _ _ ?_);clear hK K)|refine vr [] fun K hK=>?_|((first|refine aqa fun K' hK'=>?_|refine aqb fun K' B hK' hB=>?_|(apply aqk;refine aqe rfl fun K' hK'=>?_));simp[h7,h0,h1,h2,ints,g1,hgx,hgo,k1];repeat'(first|((first|refine hK' ?_|refine hB ?_);clear hK' hB K' B)|(apply hK';clear hK' K')|fail))|apply aqc|refine sp ?_|fail)
   refine ⟨?_,.refl _⟩
   have:(l.all fun x=>decide (0<=x)&&decide (x<=most))=false:=by
    rw [List.all_eq_false];exact ⟨x,hxm,by simp;omega⟩
   simp [numB,this]
  ·by_cases k2:most<x
   ·repeat'(with_reducible first|(refine aqd (hK _ _ ?_);clear hK K)|refine vr [] fun K hK=>?_|((first|refine aqa fun K' hK'=>?_|refine aqb fun K' B hK' hB=>?_|(apply aqk;refine aqe rfl fun K' hK'=>?_));simp[h7,h0,h1,h2,ints,g1,hgx,hgo,k1,k2];repeat'(first|((first|refine hK' ?_|refine hB ?_);clear hK' hB K' B)|(apply hK';clear hK' K')|fail))|apply aqc|refine sp ?_|fail)
    refine ⟨?_,.refl _⟩
    have:(l.all fun x=>decide (0<=x)&&decide (x<=most))=false:=by
     rw [List.all_eq_false];exact ⟨x,hxm,by simp;omega⟩
    simp [numB,this]
   ·repeat'(with_reducible first|(refine aqd (hK _ _ ?_);clear hK K)|refine vr [] fun K hK=>?_|((first|refine aqa fun K' hK'=>?_|refine aqb fun K' B hK' hB=>?_|(apply aqk;refine aqe rfl fun K' hK'=>?_));simp[h7,h0,h1,h2,ints,g1,hgx,hgo,k1,k2];repeat'(first|((first|refine hK' ?_|refine hB ?_);clear hK' hB K' B)|(apply hK';clear hK' K')|refine And.intro ?_ ?_|(clear hK' K';omega)))|refine sp ?_|fail)
    refine ⟨⟨q+1,by omega,rfl,fun y hy=> ?_,by simp,by simp [h0,ints],by simp [h1],by simp [h2]⟩,by simp;omega⟩
    rw [htk] at hy
    rcases List.mem_append.1 hy with hy | hy
    ·exact hf y hy
    ·rw [List.mem_singleton.1 hy];omega
 ·rw [List.take_of_length_le (by omega)] at hf
  have ha:(l.all fun x=>decide (0<=x)&&decide (x<=most))=true:=by
   rw [List.all_eq_true];intro x hx;have:=hf x hx;simp;omega
  repeat'(with_reducible first|(refine aqd (hK _ _ ?_);clear hK K)|refine vr [] fun K hK=>?_|((first|refine aqa fun K' hK'=>?_|refine aqb fun K' B hK' hB=>?_);simp[h7,h0,h1,h2,ints,g1];repeat'(first|((first|refine hK' ?_|refine hB ?_);clear hK' hB K' B)|(apply hK';clear hK' K')|fail))|apply aqc|refine sp ?_|fail)
  exact ⟨by simp [numB,ha],.refl _⟩
theorem jqp {l:List Int} {n:Int} (hl:aqz l):Ret Tryz.prog w0 85 [ints l,I n] (B (ptsB l n)):=by
 intro H
 refine aqf Tryz.func85 rfl Tryz.ntmps85 (ts:=[4]) rfl (by simp) (by kernel_rfl) ?_
 cases hr:aqw (-1) l with
 | false=>
  repeat'(with_reducible first|(refine aqd (hK _ _ ?_);clear hK K)|refine vr [] fun K hK=>?_|((first|refine aqa fun K' hK'=>?_|(apply aqk;refine aqe rfl fun K' hK'=>?_));simp[ints,hr];repeat'(first|(apply hK';clear hK' K')|refine Ret.use (cqo hl) ?_|fail))|apply aqc|refine sp ?_|fail)
  simp [ptsB,hr]
 | true=>
  by_cases hne:l=[]
  ·subst hne
   repeat'(first|(with_reducible (refine aqd (hK _ _ ?_);clear hK K))|(with_reducible refine vr [] fun K hK=>?_)|((with_reducible first|refine aqa fun K' hK'=>?_|(apply aqk;refine aqe rfl fun K' hK'=>?_));simp[ints,hr];repeat'(first|(with_reducible (apply hK';clear hK' K'))|((with_reducible refine Ret.use_eq (cqo hl) ?_ ?_;(· simp));try simp[ints,hr])|fail))|(with_reducible first|apply aqc|refine sp ?_)|fail)
   all_goals try simp [ptsB,hr]
  ·have hpos:=List.length_pos_iff.2 hne
   have hlt:l.length-1<l.length:=by omega
   have hlast:=fqo (n:=n) hr hne hlt
   have hi:((l.length:Int)-1).toNat=l.length-1:=by omega
   have hi0:(0:Int)<=(l.length:Int)-1:=by omega
   repeat'(with_reducible first|(refine aqd (hK _ _ ?_);clear hK K)|refine vr [] fun K hK=>?_|((first|refine aqa fun K' hK'=>?_|(apply aqk;refine aqe rfl fun K' hK'=>?_));simp[ints,hr,hne,hi,hi0,hlt];repeat'(first|(apply hK';clear hK' K')|refine Ret.use (cqo hl) ?_|refine And.intro ?_ ?_|(clear hK' K';omega)))|apply aqc|refine sp ?_|fail)
   all_goals try omega
   all_goals try simp [ptsB,hr,hlast]
def bqz (t n a b:Int) (l:List (List Int)) (k:Nat):Bool:=
 decide (k=0)&&(decide (t=4)||decide (b=0))&&
 (if t=0 then decide (a<=n)&&decide (l.length=0)
  else if t=1 then (l.all fun r=>numB r 2 (a-1))&&decide (1<=a)&&decide ((l.length:Int)=n)
  else if t=2 then decide (l.length=2)&&numB (l.getD 0 []) n (a-1)&&numB (l.getD 1 []) a 64
  else if t=3 then decide ((l.length:Int)=n)&&mayM a l
  else if t=4 then decide ((l.length:Int)=n)&&mayE b a l
  else false)
set_option maxRecDepth 20000 in
set_option maxHeartbeats 2000000 in
theorem plain9_ret {t n a b:Int} {l:List (List Int)} {xs:List Mtd} (hL:LenM (.mk t n a b l xs)) (hb:b<=100) (ha:0<=a/\a<=64):Ret Tryz.prog w0 120 [mtA (.mk t n a b l xs)] (B (bqz t n a b l xs.length)):=by
 obtain ⟨hl,hr,hx,hi⟩:=hL
 intro H
 simp only [mtA,mtC]
 refine aqf Tryz.func120 rfl Tryz.ntmps120 (ts:=[2]) rfl (by simp) (by kernel_rfl) ?_
 by_cases k0:0<xs.length
 ·repeat'(with_reducible first|(refine sp (hK _ _ ?_);clear hK K)|refine vr [] fun K hK=>?_|((first|refine aqa fun K' hK'=>?_|refine aqb fun K' B hK' hB=>?_|(apply aqk;refine aqe rfl fun K' hK'=>?_));simp[k0,rows];repeat'(first|((first|refine hK' ?_|refine hB ?_);clear hK' hB K' B)|(apply hK';clear hK' K')|intro hg|fail))|apply aqc|refine sp ?_|fail)
  have:¬xs.length=0:=by omega
  exact ⟨by simp [bqz];intro h;subst h;simp at k0,aqh (by assumption)⟩
 have hx0:xs.length=0:=by omega
 rw [hx0]
 by_cases t4:t=4
 ·have c1:=may5_ret (w0:=w0) (p:=b) (n:=a) hb hl hr
  simp only [rows] at c1
  subst t4
  by_cases k2:(l.length:Int)=n
  ·repeat'(with_reducible first|(refine sp (hK _ _ ?_);clear hK K)|refine vr [] fun K hK=>?_|((first|refine aqa fun K' hK'=>?_|refine aqb fun K' B hK' hB=>?_|(apply aqk;refine aqe rfl fun K' hK'=>?_));simp[k0,k2,rows];repeat'(first|((first|refine hK' ?_|refine hB ?_);clear hK' hB K' B)|(apply hK';clear hK' K')|refine Ret.use c1 ?_|intro hg|fail))|apply aqc|refine sp ?_|fail)
   exact ⟨by simp [bqz,k2],aqh (by assumption)⟩
  ·repeat'(with_reducible first|(refine sp (hK _ _ ?_);clear hK K)|refine vr [] fun K hK=>?_|((first|refine aqa fun K' hK'=>?_|refine aqb fun K' B hK' hB=>?_|(apply aqk;refine aqe rfl fun K' hK'=>?_));simp[k0,k2,rows];repeat'(first|((first|refine hK' ?_|refine hB ?_);clear hK' hB K' B)|(apply hK';clear hK' K')|intro hg|fail))|apply aqc|refine sp ?_|fail)
   exact ⟨by simp [bqz,k2],aqh (by assumption)⟩
 by_cases hb0:b=0
 ·by_cases t0:t=0
  ·subst t0
   by_cases k2:a<=n
   ·repeat'(with_reducible first|(refine sp (hK _ _ ?_);clear hK K)|refine vr [] fun K hK=>?_|((first|refine aqa fun K' hK'=>?_|refine aqb fun K' B hK' hB=>?_|(apply aqk;refine aqe rfl fun K' hK'=>?_));simp[k0,k2,rows,hb0];repeat'(first|((first|refine hK' ?_|refine hB ?_);clear hK' hB K' B)|(apply hK';clear hK' K')|intro hg|fail))|apply aqc|refine sp ?_|fail)
    exact ⟨by simp [bqz,k2,hb0],aqh (by assumption)⟩
   ·repeat'(with_reducible first|(refine sp (hK _ _ ?_);clear hK K)|refine vr [] fun K hK=>?_|((first|refine aqa fun K' hK'=>?_|refine aqb fun K' B hK' hB=>?_|(apply aqk;refine aqe rfl fun K' hK'=>?_));simp[k0,k2,rows,hb0];repeat'(first|((first|refine hK' ?_|refine hB ?_);clear hK' hB K' B)|(apply hK';clear hK' K')|intro hg|fail))|apply aqc|refine sp ?_|fail)
    exact ⟨by simp [bqz,k2,hb0],aqh (by assumption)⟩
  by_cases t1:t=1
  ·subst t1
   repeat'(with_reducible first|(refine sp (hK _ _ ?_);clear hK K)|refine vr [] fun K hK=>?_|((first|refine aqa fun K' hK'=>?_|refine aqb fun K' B hK' hB=>?_|(apply aqk;refine aqe rfl fun K' hK'=>?_));simp[k0,rows,hb0];repeat'(first|((first|refine hK' ?_|refine hB ?_);clear hK' hB K' B)|(apply hK';clear hK' K')|intro hg|fail))|refine sp ?_|fail)
   rename_i r
   have hr0:H r=none:=hg
   clear hg
   obtain ⟨H1,hH1⟩:∃ H1,H1=upd H r (some (.box [I 1,I n,I a,I 0,rows l,.sl (mtCs xs) 0])):=⟨_,rfl⟩
   have hsub:Sub H H1:=by rw [hH1];exact aqh hr0
   have lr:H1 r=some (.box [I 1,I n,I a,I 0,rows l,.sl (mtCs xs) 0]):=by rw [hH1,aqj]
   simp only [rows] at hH1
   rw [<-hH1]
   clear hH1 hr0
   refine aqi (fun env h=>∃ q:Nat,q<=l.length/\h=H1/\(∀ x∈l.take q,numB x 2 (a-1)=true)/\env 3=I q/\env 1= .ptr r 0 0) (fun env _=>l.length-natA (env 3)) ?_ ?_
   ·exact ⟨0,by omega,rfl,by simp,by simp,by simp⟩
   rintro env h ⟨q,hq,rfl,hf,h3,h1⟩
   have hnat:natA (env 3)=q:=by simp [h3]
   rw [hnat];clear hnat
   by_cases g1:q<l.length
   ·obtain ⟨x,hx'⟩:∃ x,l[q]=x:=⟨_,rfl⟩
    have hxm:x∈l:=by rw [<-hx'];exact List.getElem_mem _
    have htk:l.take (q+1)=l.take q++[x]:=by rw [List.take_succ_eq_append_getElem g1,hx']
    have hgx:∀ h,l[q]'h=x:=fun _=>hx'
    have c1:=mqz (w0:=w0) (l:=x) (many:=2) (most:=a-1) (hr x hxm)
    cases hv:numB x 2 (a-1) with
    | true=>
     rw [hv] at c1
     repeat'(with_reducible first|(refine sp (hK _ _ ?_);clear hK K)|refine vr [] fun K hK=>?_|(refine vd [] [] mixed fun K hK=>?_)|((first|refine aqa fun K' hK'=>?_|refine aqb fun K' B hK' hB=>?_|refine aqn fun K' hK'=>?_);simp[h3,h1,lr,rows,g1,hgx];repeat'(first|((first|refine hK' ?_|refine hB ?_);clear hK' hB K' B)|(apply hK';clear hK' K')|refine Ret.use c1 ?_|refine And.intro ?_ ?_|(clear hK' K';omega)))|refine sp ?_|fail)
     refine ⟨⟨q+1,by omega,rfl,fun y hy=> ?_,by simp,by simp [h1]⟩,by simp;omega⟩
     rw [htk] at hy
     rcases List.mem_append.1 hy with hy | hy
     ·exact hf y hy
     ·rw [List.mem_singleton.1 hy];exact hv
    | false=>
     rw [hv] at c1
     have:(l.all fun r=>numB r 2 (a-1))=false:=by rw [List.all_eq_false];exact ⟨x,hxm,by simp [hv]⟩
     repeat'(with_reducible first|(refine sp (hK _ _ ?_);clear hK K)|refine vr [] fun K hK=>?_|(refine vd [] [] mixed fun K hK=>?_)|((first|refine aqa fun K' hK'=>?_|refine aqb fun K' B hK' hB=>?_|refine aqn fun K' hK'=>?_);simp[h3,h1,lr,rows,g1,hgx];repeat'(first|((first|refine hK' ?_|refine hB ?_);clear hK' hB K' B)|(apply hK';clear hK' K')|refine Ret.use c1 ?_|refine And.intro ?_ ?_|(clear hK' K';omega)))|apply aqc|refine sp ?_|fail)
     exact ⟨by simp [bqz,this],hsub⟩
   ·rw [List.take_of_length_le (by omega)] at hf
    have:(l.all fun r=>numB r 2 (a-1))=true:=by rw [List.all_eq_true];exact hf
    by_cases k1:1<=a
    ·by_cases k2:(l.length:Int)=n
     ·repeat'(with_reducible first|(refine sp (hK _ _ ?_);clear hK K)|refine vr [] fun K hK=>?_|(refine vd [] [] mixed fun K hK=>?_)|((first|refine aqa fun K' hK'=>?_|refine aqb fun K' B hK' hB=>?_|refine aqn fun K' hK'=>?_|(apply aqk;refine aqe rfl fun K' hK'=>?_));simp[h3,h1,lr,rows,g1,k1,k2];repeat'(first|((first|refine hK' ?_|refine hB ?_);clear hK' hB K' B)|(apply hK';clear hK' K')|refine And.intro ?_ ?_|intro hg|(clear hK' K';omega)))|apply aqc|refine sp ?_|fail)
      exact ⟨by simp [bqz,this,hb0,k1,k2],hsub⟩
     ·repeat'(with_reducible first|(refine sp (hK _ _ ?_);clear hK K)|refine vr [] fun K hK=>?_|((first|refine aqa fun K' hK'=>?_|refine aqb fun K' B hK' hB=>?_|(apply aqk;refine aqe rfl fun K' hK'=>?_));simp[h3,h1,lr,rows,g1,k1,k2];repeat'(first|((first|refine hK' ?_|refine hB ?_);clear hK' hB K' B)|(apply hK';clear hK' K')|fail))|apply aqc|refine sp ?_|fail)
      exact ⟨by simp [bqz,k2],hsub⟩
    ·repeat'(with_reducible first|(refine sp (hK _ _ ?_);clear hK K)|refine vr [] fun K hK=>?_|((first|refine aqa fun K' hK'=>?_|refine aqb fun K' B hK' hB=>?_|(apply aqk;refine aqe rfl fun K' hK'=>?_));simp[h3,h1,lr,rows,g1,k1];repeat'(first|((first|refine hK' ?_|refine hB ?_);clear hK' hB K' B)|(apply hK';clear hK' K')|fail))|apply aqc|refine sp ?_|fail)
     exact ⟨by simp [bqz,k1],hsub⟩
  by_cases t2:t=2
  ·subst t2
   by_cases k2:l.length=2
   ·match l,k2 with
    | [x,y],_=>
     have c1:=mqz (w0:=w0) (l:=x) (many:=n) (most:=a-1) (hr x (by simp))
     have c2:=mqz (w0:=w0) (l:=y) (many:=a) (most:=64) (hr y (by simp))
     cases hv:numB x n (a-1) with
     | true=>
      rw [hv] at c1
      repeat'(with_reducible first|(refine sp (hK _ _ ?_);clear hK K)|refine vr [] fun K hK=>?_|(refine vd [] [] mixed fun K hK=>?_)|((first|refine aqa fun K' hK'=>?_|refine aqb fun K' B hK' hB=>?_|refine aqn fun K' hK'=>?_|(apply aqk;refine aqe rfl fun K' hK'=>?_)|(apply bq8;refine aqt rfl fun K' hK'=>?_));simp[k0,rows,hb0,ints];repeat'(first|((first|refine hK' ?_|refine hB ?_);clear hK' hB K' B)|(apply hK';clear hK' K')|refine Ret.use c1 ?_|refine Ret.use c2 ?_|refine And.intro ?_ ?_|intro hg|(clear hK' K';omega)))|apply aqc|refine sp ?_|fail)
      exact ⟨by simp [bqz,hv,hb0],aqh (by assumption)⟩
     | false=>
      rw [hv] at c1
      repeat'(with_reducible first|(refine sp (hK _ _ ?_);clear hK K)|refine vr [] fun K hK=>?_|(refine vd [] [] mixed fun K hK=>?_)|((first|refine aqa fun K' hK'=>?_|refine aqb fun K' B hK' hB=>?_|refine aqn fun K' hK'=>?_|(apply aqk;refine aqe rfl fun K' hK'=>?_)|(apply bq8;refine aqt rfl fun K' hK'=>?_));simp[k0,rows,hb0,ints];repeat'(first|((first|refine hK' ?_|refine hB ?_);clear hK' hB K' B)|(apply hK';clear hK' K')|refine Ret.use c1 ?_|refine And.intro ?_ ?_|intro hg|(clear hK' K';omega)))|apply aqc|refine sp ?_|fail)
      exact ⟨by simp [bqz,hv],aqh (by assumption)⟩
   ·have k2':¬(l.length:Int)=2:=by omega
    repeat'(with_reducible first|(refine sp (hK _ _ ?_);clear hK K)|refine vr [] fun K hK=>?_|(refine vd [] [] mixed fun K hK=>?_)|((first|refine aqa fun K' hK'=>?_|refine aqb fun K' B hK' hB=>?_|refine aqn fun K' hK'=>?_|(apply aqk;refine aqe rfl fun K' hK'=>?_)|(apply bq8;refine aqt rfl fun K' hK'=>?_));simp[k0,rows,hb0,k2'];repeat'(first|((first|refine hK' ?_|refine hB ?_);clear hK' hB K' B)|(apply hK';clear hK' K')|intro hg|fail))|apply aqc|refine sp ?_|fail)
    exact ⟨by simp [bqz,k2],aqh (by assumption)⟩
  by_cases t3:t=3
  ·have c1:=may6_ret (w0:=w0) (n:=a) hl hr
   simp only [rows] at c1
   subst t3
   by_cases k2:(l.length:Int)=n
   ·repeat'(with_reducible first|(refine sp (hK _ _ ?_);clear hK K)|refine vr [] fun K hK=>?_|((first|refine aqa fun K' hK'=>?_|refine aqb fun K' B hK' hB=>?_|(apply aqk;refine aqe rfl fun K' hK'=>?_));simp[k0,k2,rows,hb0];repeat'(first|((first|refine hK' ?_|refine hB ?_);clear hK' hB K' B)|(apply hK';clear hK' K')|refine Ret.use c1 ?_|intro hg|fail))|apply aqc|refine sp ?_|fail)
    exact ⟨by simp [bqz,k2,hb0],aqh (by assumption)⟩
   ·repeat'(with_reducible first|(refine sp (hK _ _ ?_);clear hK K)|refine vr [] fun K hK=>?_|((first|refine aqa fun K' hK'=>?_|refine aqb fun K' B hK' hB=>?_|(apply aqk;refine aqe rfl fun K' hK'=>?_));simp[k0,k2,rows,hb0];repeat'(first|((first|refine hK' ?_|refine hB ?_);clear hK' hB K' B)|(apply hK';clear hK' K')|intro hg|fail))|apply aqc|refine sp ?_|fail)
    exact ⟨by simp [bqz,k2],aqh (by assumption)⟩
  ·repeat'(with_reducible first|(refine sp (hK _ _ ?_);clear hK K)|refine vr [] fun K hK=>?_|((first|refine aqa fun K' hK'=>?_|refine aqb fun K' B hK' hB=>?_|(apply aqk;refine aqe rfl fun K' hK'=>?_));simp[k0,rows,hb0,t0,t1,t2,t3,t4];repeat'(first|((first|refine hK' ?_|refine hB ?_);clear hK' hB K' B)|(apply hK';clear hK' K')|intro hg|fail))|apply aqc|refine sp ?_|fail)
   exact ⟨by simp [bqz,t0,t1,t2,t3,t4],aqh (by assumption)⟩
 ·repeat'(with_reducible first|(refine sp (hK _ _ ?_);clear hK K)|refine vr [] fun K hK=>?_|((first|refine aqa fun K' hK'=>?_|refine aqb fun K' B hK' hB=>?_|(apply aqk;refine aqe rfl fun K' hK'=>?_));simp[k0,t4,hb0,rows];repeat'(first|((first|refine hK' ?_|refine hB ?_);clear hK' hB K' B)|(apply hK';clear hK' K')|intro hg|fail))|apply aqc|refine sp ?_|fail)
  exact ⟨by simp [bqz,t4,hb0],aqh (by assumption)⟩
def sumN (xs:List Mtd):Int:=(xs.map Mtd.n).sum
mutual
def mayT:Mtd->Bool
 | .mk t n a b l xs=>decide (0<=n)&&decide (n<=64)&&decide (0<=a)&&decide (a<=64)&&
  (if 5<=t/\t<=9 then
   decide (b=0)&&(decide (t=7)||decide (a=0))&&decide (1<=xs.length)&&decide (xs.length<=8)&&(decide (t=9)||decide (xs.length<=1))&&kqi xs&&
   (if 7<=t then decide (l.length=0)&&decide (n=sumN xs)
    else decide (l.length=1)&&ptsB (l.getD 0 []) (sumN xs)&&(if t=5 then decide (n=(l.getD 0 []).length) else decide (n=sumN xs-(l.getD 0 []).length)))
   else bqz t n a b l xs.length)
def kqi:List Mtd->Bool
 | []=>true
 | x::xs=>mayT x&&kqi xs
end
theorem hq5 (xs:List Mtd):kqi xs=xs.all mayT:=by
 induction xs with
 | nil=>rfl
 | cons x xs ih=>rw [kqi,List.all_cons,ih]
inductive Nice:Mtd->Prop
 | mk {t n a b:Int} {l:List (List Int)} {xs:List Mtd} (hl:aqz l) (hr:∀ r∈l,aqz r) (hx:aqz xs) (hb:b<=100) (hi:∀ x∈xs,Nice x):Nice (.mk t n a b l xs)
theorem Nice.len:∀ {m:Mtd},Nice m->LenM m:=by
 intro m
 refine Mtd.ind (P:=fun m=>Nice m->LenM m) (fun t n a b l xs ih h=> ?_) m
 obtain ⟨h1,h2,h3,h4,h5⟩:=h
 exact ⟨h1,h2,h3,fun x hx=>ih x hx (h5 x hx)⟩
theorem Nice.of:∀ {m:Mtd},LenM m->∀ {k:Int},fewR m k=true->Nice m:=by
 intro m
 refine Mtd.ind (P:=fun m=>LenM m->∀ {k:Int},fewR m k=true->Nice m) (fun t n a b l xs ih h k hf=> ?_) m
 obtain ⟨h1,h2,h3,h5⟩:=h
 rw [fewR,hq7] at hf
 simp only [Bool.and_eq_true,decide_eq_true_eq,List.all_eq_true] at hf
 exact ⟨h1,h2,h3,hf.1.2,fun x hx=>ih x hx (h5 x hx) (hf.2 x hx)⟩
theorem bq1 {m:Mtd} (h:mayT m=true):0<=m.n/\m.n<=64:=by
 obtain ⟨t,n,a,b,l,xs⟩:=m
 rw [mayT] at h
 simp only [Bool.and_eq_true,decide_eq_true_eq] at h
 exact ⟨h.1.1.1.1,h.1.1.1.2⟩
theorem sumN_app (xs:List Mtd) (x:Mtd):sumN (xs++[x])=sumN xs+x.n:=by simp [sumN]
theorem hqj {xs:List Mtd} (h:∀ x∈xs,0<=x.n/\x.n<=64):0<=sumN xs/\sumN xs<=64*xs.length:=by
 induction xs with
 | nil=>simp [sumN]
 | cons x xs ih=>
  have h1:=h x (by simp)
  have h2:=ih fun y hy=>h y (by simp [hy])
  have e:sumN (x::xs)=x.n+sumN xs:=by simp [sumN]
  rw [e,List.length_cons];omega
theorem mtC_at1 {x:Mtd} {h:1<(mtC x).length}:(mtC x)[1]=I x.n:=by cases x;rfl
set_option maxRecDepth 20000 in
theorem sums9_ret {t n a b:Int} {l:List (List Int)} {xs:List Mtd} (hx8:xs.length<=8) (ih:∀ x∈xs,Ret Tryz.prog w0 86 [mtA x] (B (mayT x))):Ret Tryz.prog w0 121 [mtA (.mk t n a b l xs)] (I (if kqi xs then sumN xs else -1)):=by
 intro H
 simp only [mtA,mtC]
 refine aqf Tryz.func121 rfl Tryz.ntmps121 (ts:=[2]) rfl (by simp) (by kernel_rfl) ?_
 repeat'(with_reducible first|(refine aqd (hK _ _ ?_);clear hK K)|refine vr [] fun K hK=>?_|(refine aqa fun K' hK'=>?_;simp[rows];repeat'(first|(apply hK';clear hK' K')|intro hg|fail))|refine sp ?_|fail)
 rename_i r
 have hr0:H r=none:=hg
 clear hg
 obtain ⟨H1,hH1⟩:∃ H1,H1=upd H r (some (.box [I t,I n,I a,I b,rows l,.sl (mtCs xs) xs.length])):=⟨_,rfl⟩
 have hsub:Sub H H1:=by rw [hH1];exact aqh hr0
 have lr:H1 r=some (.box [I t,I n,I a,I b,rows l,.sl (mtCs xs) xs.length]):=by rw [hH1,aqj]
 simp only [rows] at hH1
 rw [<-hH1]
 clear hH1 hr0
 refine aqi (fun env h=>∃ q:Nat,q<=xs.length/\h=H1/\(∀ x∈xs.take q,mayT x=true)/\env 4=I q/\env 3=I (sumN (xs.take q))/\env 1= .ptr r 0 0) (fun env _=>xs.length-natA (env 4)) ?_ ?_
 ·exact ⟨0,by omega,rfl,by simp,by simp,by simp [sumN],by simp⟩
 rintro env h ⟨q,hq,rfl,hf,h4,h3,h1⟩
 have hnat:natA (env 4)=q:=by simp [h4]
 rw [hnat];clear hnat
 by_cases g1:q<xs.length
 ·have hat:=dq1 g1
  have hsl:=dqb xs
  have hlt':q*6+6<=xs.length*6:=by omega
  obtain ⟨x,hx'⟩:∃ x,xs[q]=x:=⟨_,rfl⟩
  have hxm:x∈xs:=by rw [<-hx'];exact List.getElem_mem _
  have ci:=ih x hxm
  rw [hx'] at hat
  have htk:xs.take (q+1)=xs.take q++[x]:=by rw [List.take_succ_eq_append_getElem g1,hx']
  have hsa:=sumN_app (xs.take q) x
  rw [<-htk] at hsa
  have hbn:=hqj (xs:=xs.take q) fun y hy=>bq1 (hf y hy)
  have htl:(xs.take q).length<=8:=by rw [List.length_take];omega
  have hcl:=cqh x
  have hone:mtA x= .agg (mtC x):=rfl
  rw [hone] at ci
  have hn1:(mtCs xs)[q*6+1]? =some (I x.n):=by
   have e:((mtCs xs).drop (q*6)).take 6=mtC x:=hat
   have:(((mtCs xs).drop (q*6)).take 6)[1]? =some (I x.n):=by rw [e];cases x;rfl
   rw [List.getElem?_take_of_lt (by omega),List.getElem?_drop] at this
   exact this
  generalize sumN (xs.take q)=s at *
  cases hv:mayT x with
  | true=>
   rw [hv] at ci
   have hxn:=bq1 hv
   repeat'(with_reducible first|(refine aqd (hK _ _ ?_);clear hK K)|refine vr [] fun K hK=>?_|((first|refine aqa fun K' hK'=>?_|refine aqb fun K' B hK' hB=>?_);simp[h4,h3,h1,lr,g1,hat,hsl,hlt',hn1];repeat'(first|((first|refine hK' ?_|refine hB ?_);clear hK' hB K' B)|(apply hK';clear hK' K')|refine Ret.use ci ?_|refine And.intro ?_ ?_|(clear hK' K';omega)))|refine sp ?_|fail)
   refine ⟨⟨q+1,by omega,rfl,fun y hy=> ?_,by simp,by rw [hsa];simp,by simp [h1]⟩,by simp;omega⟩
   rw [htk] at hy
   rcases List.mem_append.1 hy with hy | hy
   ·exact hf y hy
   ·rw [List.mem_singleton.1 hy];exact hv
  | false=>
   rw [hv] at ci
   have hfa:kqi xs=false:=by rw [hq5,List.all_eq_false];exact ⟨x,hxm,by simp [hv]⟩
   repeat'(with_reducible first|(refine aqd (hK _ _ ?_);clear hK K)|refine vr [] fun K hK=>?_|((first|refine aqa fun K' hK'=>?_|refine aqb fun K' B hK' hB=>?_);simp[h4,h3,h1,lr,g1,hat,hsl,hlt'];repeat'(first|((first|refine hK' ?_|refine hB ?_);clear hK' hB K' B)|(apply hK';clear hK' K')|refine Ret.use ci ?_|fail))|apply aqc|refine sp ?_|fail)
   exact ⟨by simp [hfa],hsub⟩
 ·rw [List.take_of_length_le (by omega)] at hf h3
  have hfa:kqi xs=true:=by rw [hq5,List.all_eq_true];exact hf
  repeat'(with_reducible first|(refine aqd (hK _ _ ?_);clear hK K)|refine vr [] fun K hK=>?_|((first|refine aqa fun K' hK'=>?_|refine aqb fun K' B hK' hB=>?_);simp[h4,h3,h1,lr,g1];repeat'(first|((first|refine hK' ?_|refine hB ?_);clear hK' hB K' B)|(apply hK';clear hK' K')|fail))|apply aqc|refine sp ?_|fail)
  exact ⟨by simp [hfa],hsub⟩
set_option maxRecDepth 20000 in
set_option maxHeartbeats 4000000 in
theorem may9_ret:∀ m,Nice m->Ret Tryz.prog w0 86 [mtA m] (B (mayT m)):=by
 refine Mtd.ind fun t n a b l xs ih hN=> ?_
 have hL:=hN.len
 obtain ⟨hl,hr,hx,hb,hi⟩:=hN
 have ih':∀ x∈xs,Ret Tryz.prog w0 86 [mtA x] (B (mayT x)):=fun x hxm=>ih x hxm (hi x hxm)
 intro H
 have c1:=lqq (w0:=w0) (t:=t)
 rw [mayT]
 by_cases b1:0<=n/\n<=64/\0<=a/\a<=64
 rotate_left
 ·have hf:(decide (0<=n)&&decide (n<=64)&&decide (0<=a)&&decide (a<=64))=false:=by
   rw [Bool.eq_false_iff];intro h;simp at h;omega
  rw [hf,Bool.false_and]
  simp only [mtA,mtC]
  refine aqf Tryz.func86 rfl Tryz.ntmps86 (ts:=[2]) rfl (by simp) (by kernel_rfl) ?_
  by_cases k1:n<0
  ·repeat'(with_reducible first|(refine sp (hK _ _ ?_);clear hK K)|refine vr [] fun K hK=>?_|((first|refine aqa fun K' hK'=>?_|refine aqb fun K' B hK' hB=>?_|(apply aqk;refine aqe rfl fun K' hK'=>?_));simp[k1];repeat'(first|((first|refine hK' ?_|refine hB ?_);clear hK' hB K' B)|(apply hK';clear hK' K')|intro hg|fail))|apply aqc|refine sp ?_|fail)
   exact ⟨by simp,aqh (by assumption)⟩
  by_cases k2:64<n
  ·repeat'(with_reducible first|(refine sp (hK _ _ ?_);clear hK K)|refine vr [] fun K hK=>?_|((first|refine aqa fun K' hK'=>?_|refine aqb fun K' B hK' hB=>?_|(apply aqk;refine aqe rfl fun K' hK'=>?_));simp[k1,k2];repeat'(first|((first|refine hK' ?_|refine hB ?_);clear hK' hB K' B)|(apply hK';clear hK' K')|intro hg|fail))|apply aqc|refine sp ?_|fail)
   exact ⟨by simp,aqh (by assumption)⟩
  by_cases k3:a<0
  ·repeat'(with_reducible first|(refine sp (hK _ _ ?_);clear hK K)|refine vr [] fun K hK=>?_|((first|refine aqa fun K' hK'=>?_|refine aqb fun K' B hK' hB=>?_|(apply aqk;refine aqe rfl fun K' hK'=>?_));simp[k1,k2,k3];repeat'(first|((first|refine hK' ?_|refine hB ?_);clear hK' hB K' B)|(apply hK';clear hK' K')|intro hg|fail))|apply aqc|refine sp ?_|fail)
   exact ⟨by simp,aqh (by assumption)⟩
  by_cases k4:64<a
  ·repeat'(with_reducible first|(refine sp (hK _ _ ?_);clear hK K)|refine vr [] fun K hK=>?_|((first|refine aqa fun K' hK'=>?_|refine aqb fun K' B hK' hB=>?_|(apply aqk;refine aqe rfl fun K' hK'=>?_));simp[k1,k2,k3,k4];repeat'(first|((first|refine hK' ?_|refine hB ?_);clear hK' hB K' B)|(apply hK';clear hK' K')|intro hg|fail))|apply aqc|refine sp ?_|fail)
   exact ⟨by simp,aqh (by assumption)⟩
  ·omega
 have hf:(decide (0<=n)&&decide (n<=64)&&decide (0<=a)&&decide (a<=64))=true:=by simp;omega
 rw [hf,Bool.true_and]
 have k1:¬n<0:=by omega
 have k2:¬64<n:=by omega
 have k3:¬a<0:=by omega
 have k4:¬64<a:=by omega
 by_cases g:5<=t/\t<=9
 rotate_left
 ·rw [if_neg g]
  have c2:=plain9_ret (w0:=w0) hL hb b1.2.2
  simp only [mtA,mtC] at c2 ⊢
  have hd:decide (5<=t/\t<=9)=false:=by simpa using g
  rw [hd] at c1
  refine aqf Tryz.func86 rfl Tryz.ntmps86 (ts:=[2]) rfl (by simp) (by kernel_rfl) ?_
  repeat'(with_reducible first|(refine sp (hK _ _ ?_);clear hK K)|refine vr [] fun K hK=>?_|((first|refine aqa fun K' hK'=>?_|refine aqb fun K' B hK' hB=>?_|(apply aqk;refine aqe rfl fun K' hK'=>?_));simp[k1,k2,k3,k4];repeat'(first|((first|refine hK' ?_|refine hB ?_);clear hK' hB K' B)|(apply hK';clear hK' K')|refine Ret.use c1 ?_|refine Ret.use c2 ?_|intro hg|fail))|apply aqc|refine sp ?_|fail)
  exact ⟨by simp,aqh (by assumption)⟩
 rw [if_pos g]
 have hd:decide (5<=t/\t<=9)=true:=by simpa using g
 rw [hd] at c1
 by_cases j1:b=0
 rotate_left
 ·rw [decide_eq_false j1]
  simp only [Bool.false_and]
  simp only [mtA,mtC]
  refine aqf Tryz.func86 rfl Tryz.ntmps86 (ts:=[2]) rfl (by simp) (by kernel_rfl) ?_
  repeat'(with_reducible first|(refine sp (hK _ _ ?_);clear hK K)|refine vr [] fun K hK=>?_|((first|refine aqa fun K' hK'=>?_|refine aqb fun K' B hK' hB=>?_|(apply aqk;refine aqe rfl fun K' hK'=>?_));simp[k1,k2,k3,k4,j1];repeat'(first|((first|refine hK' ?_|refine hB ?_);clear hK' hB K' B)|(apply hK';clear hK' K')|refine Ret.use c1 ?_|intro hg|fail))|apply aqc|refine sp ?_|fail)
  exact ⟨by simp,aqh (by assumption)⟩
 by_cases j2:t=7\/a=0
 rotate_left
 ·have j3:¬t=7:=fun h=>j2 (.inl h)
  have j4:¬a=0:=fun h=>j2 (.inr h)
  rw [decide_eq_false j3,decide_eq_false j4]
  simp only [Bool.false_and,Bool.and_false,Bool.or_false]
  simp only [mtA,mtC]
  refine aqf Tryz.func86 rfl Tryz.ntmps86 (ts:=[2]) rfl (by simp) (by kernel_rfl) ?_
  repeat'(with_reducible first|(refine sp (hK _ _ ?_);clear hK K)|refine vr [] fun K hK=>?_|((first|refine aqa fun K' hK'=>?_|refine aqb fun K' B hK' hB=>?_|(apply aqk;refine aqe rfl fun K' hK'=>?_));simp[k1,k2,k3,k4,j1,j3,j4];repeat'(first|((first|refine hK' ?_|refine hB ?_);clear hK' hB K' B)|(apply hK';clear hK' K')|refine Ret.use c1 ?_|intro hg|fail))|apply aqc|refine sp ?_|fail)
  exact ⟨by simp,aqh (by assumption)⟩
 have hd2:(decide (t=7)||decide (a=0))=true:=by simpa using j2
 rw [hd2,decide_eq_true j1]
 have f1:(b=0)=True:=eq_true j1
 have both:((a=0)=True/\True)\/((a=0)=False/\(t=7)=True):=by
  by_cases h:a=0
  ·exact .inl ⟨eq_true h,trivial⟩
  ·exact .inr ⟨eq_false h,eq_true (j2.resolve_right h)⟩
 have hm:∀ x∈xs,Ret Tryz.prog w0 86 [mtA x] (B (mayT x)):=ih'
 clear ih ih'
 by_cases j3:(xs.length:Int)<1
 ·have:¬1<=xs.length:=by omega
  rw [decide_eq_false this]
  simp only [Bool.false_and,Bool.and_false]
  simp only [mtA,mtC]
  rcases both with ⟨a0,t7⟩ | ⟨a0,t7⟩
  all_goals
   refine aqf Tryz.func86 rfl Tryz.ntmps86 (ts:=[2]) rfl (by simp) (by kernel_rfl) ?_
   repeat'(with_reducible first|(refine sp (hK _ _ ?_);clear hK K)|refine vr [] fun K hK=>?_|((first|refine aqa fun K' hK'=>?_|refine aqb fun K' B hK' hB=>?_|(apply aqk;refine aqe rfl fun K' hK'=>?_));simp[k1,k2,k3,k4,f1,j3,a0,t7];repeat'(first|((first|refine hK' ?_|refine hB ?_);clear hK' hB K' B)|(apply hK';clear hK' K')|refine Ret.use c1 ?_|intro hg|fail))|apply aqc|refine sp ?_|fail)
   exact ⟨by simp,aqh (by assumption)⟩
 by_cases j5:8<(xs.length:Int)
 ·have:¬xs.length<=8:=by omega
  rw [decide_eq_false this]
  simp only [Bool.false_and,Bool.and_false]
  simp only [mtA,mtC]
  rcases both with ⟨a0,t7⟩ | ⟨a0,t7⟩
  all_goals
   refine aqf Tryz.func86 rfl Tryz.ntmps86 (ts:=[2]) rfl (by simp) (by kernel_rfl) ?_
   repeat'(with_reducible first|(refine sp (hK _ _ ?_);clear hK K)|refine vr [] fun K hK=>?_|((first|refine aqa fun K' hK'=>?_|refine aqb fun K' B hK' hB=>?_|(apply aqk;refine aqe rfl fun K' hK'=>?_));simp[k1,k2,k3,k4,f1,j3,j5,a0,t7];repeat'(first|((first|refine hK' ?_|refine hB ?_);clear hK' hB K' B)|(apply hK';clear hK' K')|refine Ret.use c1 ?_|intro hg|fail))|apply aqc|refine sp ?_|fail)
   exact ⟨by simp,aqh (by assumption)⟩
 have j3':1<=xs.length:=by omega
 have j5':xs.length<=8:=by omega
 rw [decide_eq_true j3',decide_eq_true j5']
 by_cases j6:((1<(xs.length:Int))=False/\True)\/((1<(xs.length:Int))=True/\(t=9)=True)
 rotate_left
 ·have j8:1<(xs.length:Int):=by
   by_cases h:1<(xs.length:Int)
   ·exact h
   ·exact absurd (.inl ⟨eq_false h,trivial⟩) j6
  have j7:¬t=9:=fun h=>j6 (.inr ⟨eq_true j8,eq_true h⟩)
  have j9:¬xs.length<=1:=by omega
  rw [decide_eq_false j7,decide_eq_false j9]
  simp only [Bool.false_and,Bool.and_false,Bool.or_false]
  simp only [mtA,mtC]
  rcases both with ⟨a0,t7⟩ | ⟨a0,t7⟩
  all_goals
   refine aqf Tryz.func86 rfl Tryz.ntmps86 (ts:=[2]) rfl (by simp) (by kernel_rfl) ?_
   repeat'(with_reducible first|(refine sp (hK _ _ ?_);clear hK K)|refine vr [] fun K hK=>?_|((first|refine aqa fun K' hK'=>?_|refine aqb fun K' B hK' hB=>?_|(apply aqk;refine aqe rfl fun K' hK'=>?_));simp[k1,k2,k3,k4,f1,j3,j5,a0,t7,j7,j8];repeat'(first|((first|refine hK' ?_|refine hB ?_);clear hK' hB K' B)|(apply hK';clear hK' K')|refine Ret.use c1 ?_|intro hg|fail))|apply aqc|refine sp ?_|fail)
   exact ⟨by simp,aqh (by assumption)⟩
 have hd3:(decide (t=9)||decide (xs.length<=1))=true:=by
  rcases j6 with ⟨h,_⟩ | ⟨_,h⟩
  ·have:=of_eq_false h
   simp;omega
  ·have:=of_eq_true h
   simp [this]
 rw [hd3]
 simp only [Bool.true_and]
 have c3:=sums9_ret (w0:=w0) (t:=t) (n:=n) (a:=a) (b:=b) (l:=l) j5' hm
 simp only [mtA,mtC] at c3 ⊢
 cases hv:kqi xs with
 | false=>
  rw [hv] at c3
  rcases both with ⟨a0,t7⟩ | ⟨a0,t7⟩<;>rcases j6 with ⟨j6,t9⟩ | ⟨j6,t9⟩
  all_goals
   refine aqf Tryz.func86 rfl Tryz.ntmps86 (ts:=[2]) rfl (by simp) (by kernel_rfl) ?_
   repeat'(with_reducible first|(refine sp (hK _ _ ?_);clear hK K)|refine vr [] fun K hK=>?_|((first|refine aqa fun K' hK'=>?_|refine aqb fun K' B hK' hB=>?_|(apply aqk;refine aqe rfl fun K' hK'=>?_));simp[k1,k2,k3,k4,f1,j3,j5,a0,t7,j6,t9];repeat'(first|((first|refine hK' ?_|refine hB ?_);clear hK' hB K' B)|(apply hK';clear hK' K')|refine Ret.use c1 ?_|refine Ret.use c3 ?_|intro hg|fail))|apply aqc|refine sp ?_|fail)
   exact ⟨by simp,aqh (by assumption)⟩
 | true=>
 rw [hv] at c3
 simp only [if_true] at c3
 have hbn:=hqj (xs:=xs) fun y hy=>bq1 (by rw [hq5,List.all_eq_true] at hv;exact hv y hy)
 generalize sumN xs=s at *
 have s0:¬s<0:=by omega
 simp only [Bool.true_and]
 by_cases q7:7<=t
 ·rw [if_pos q7]
  by_cases l0:l=[]
  ·subst l0
   simp only [rows,List.map_nil,List.length_nil] at c3 ⊢
   simp only [decide_true,Bool.true_and]
   rcases both with ⟨a0,t7⟩ | ⟨a0,t7⟩<;>rcases j6 with ⟨j6,t9⟩ | ⟨j6,t9⟩
   all_goals
    refine aqf Tryz.func86 rfl Tryz.ntmps86 (ts:=[2]) rfl (by simp) (by kernel_rfl) ?_
    repeat'(with_reducible first|(refine sp (hK _ _ ?_);clear hK K)|refine vr [] fun K hK=>?_|((first|refine aqa fun K' hK'=>?_|refine aqb fun K' B hK' hB=>?_|(apply aqk;refine aqe rfl fun K' hK'=>?_));simp[k1,k2,k3,k4,f1,j3,j5,a0,t7,j6,t9,s0,q7];repeat'(first|((first|refine hK' ?_|refine hB ?_);clear hK' hB K' B)|(apply hK';clear hK' K')|refine Ret.use c1 ?_|refine Ret.use c3 ?_|intro hg|fail))|apply aqc|refine sp ?_|fail)
    exact ⟨by simp,aqh (by assumption)⟩
  ·have l0':¬l.length=0:=by simpa using l0
   rw [decide_eq_false l0',Bool.false_and]
   rcases both with ⟨a0,t7⟩ | ⟨a0,t7⟩<;>rcases j6 with ⟨j6,t9⟩ | ⟨j6,t9⟩
   all_goals
    refine aqf Tryz.func86 rfl Tryz.ntmps86 (ts:=[2]) rfl (by simp) (by kernel_rfl) ?_
    repeat'(with_reducible first|(refine sp (hK _ _ ?_);clear hK K)|refine vr [] fun K hK=>?_|((first|refine aqa fun K' hK'=>?_|refine aqb fun K' B hK' hB=>?_|(apply aqk;refine aqe rfl fun K' hK'=>?_));simp[k1,k2,k3,k4,f1,j3,j5,a0,t7,j6,t9,s0,q7,rows,l0];repeat'(first|((first|refine hK' ?_|refine hB ?_);clear hK' hB K' B)|(apply hK';clear hK' K')|refine Ret.use c1 ?_|refine Ret.use c3 ?_|intro hg|fail))|apply aqc|refine sp ?_|fail)
    exact ⟨by simp,aqh (by assumption)⟩
 ·rw [if_neg q7]
  have t7':(t=7)=False:=eq_false (by omega)
  have t9':(t=9)=False:=eq_false (by omega)
  have a0:(a=0)=True:=by
   rcases both with ⟨h,_⟩ | ⟨_,h⟩
   ·exact h
   ·rw [t7'] at h;exact absurd h (by simp)
  have j6':(1<(xs.length:Int))=False:=by
   rcases j6 with ⟨h,_⟩ | ⟨_,h⟩
   ·exact h
   ·rw [t9'] at h;exact absurd h (by simp)
  clear both j6
  by_cases l1:l.length=1
  ·match l,l1 with
   | [y],_=>
    have hy:=hr y (by simp)
    have c4:=jqp (w0:=w0) (l:=y) (n:=s) hy
    have e0:([y]:List (List Int)).getD 0 []=y:=rfl
    rw [e0]
    simp only [rows,List.map_cons,List.map_nil,List.length_cons,List.length_nil] at c3 ⊢
    cases hs:ptsB y s with
    | false=>
     rw [hs] at c4
     refine aqf Tryz.func86 rfl Tryz.ntmps86 (ts:=[2]) rfl (by simp) (by kernel_rfl) ?_
     repeat'(with_reducible first|(refine sp (hK _ _ ?_);clear hK K)|refine vr [] fun K hK=>?_|((first|refine aqa fun K' hK'=>?_|refine aqb fun K' B hK' hB=>?_|(apply aqk;refine aqe rfl fun K' hK'=>?_));simp[k1,k2,k3,k4,f1,j3,j5,a0,t7',t9',j6',s0,q7,ints];repeat'(first|((first|refine hK' ?_|refine hB ?_);clear hK' hB K' B)|(apply hK';clear hK' K')|refine Ret.use c1 ?_|refine Ret.use c3 ?_|refine Ret.use c4 ?_|intro hg|fail))|apply aqc|refine sp ?_|fail)
     exact ⟨by simp,aqh (by assumption)⟩
    | true=>
     rw [hs] at c4
     have hyl:aqz y:=hy
     have hyb:(y.length:Int)<=4611686018427387904:=by omega
     by_cases t5:t=5
     ·have t5':=eq_true t5
      refine aqf Tryz.func86 rfl Tryz.ntmps86 (ts:=[2]) rfl (by simp) (by kernel_rfl) ?_
      repeat'(with_reducible first|(refine sp (hK _ _ ?_);clear hK K)|refine vr [] fun K hK=>?_|(refine vd [] [] mixed fun K hK=>?_)|((first|refine aqa fun K' hK'=>?_|refine aqb fun K' B hK' hB=>?_|refine aqn fun K' hK'=>?_|(apply aqk;refine aqe rfl fun K' hK'=>?_));simp[k1,k2,k3,k4,f1,j3,j5,a0,t7',t9',j6',s0,q7,ints,t5'];repeat'(first|((first|refine hK' ?_|refine hB ?_);clear hK' hB K' B)|(apply hK';clear hK' K')|refine Ret.use c1 ?_|refine Ret.use c3 ?_|refine Ret.use c4 ?_|intro hg|fail))|apply aqc|refine sp ?_|fail)
      exact ⟨by simp [t5],aqh (by assumption)⟩
     ·refine aqf Tryz.func86 rfl Tryz.ntmps86 (ts:=[2]) rfl (by simp) (by kernel_rfl) ?_
      repeat'(with_reducible first|(refine sp (hK _ _ ?_);clear hK K)|refine vr [] fun K hK=>?_|(refine vd [] [] mixed fun K hK=>?_)|((first|refine aqa fun K' hK'=>?_|refine aqb fun K' B hK' hB=>?_|refine aqn fun K' hK'=>?_|(apply aqk;refine aqe rfl fun K' hK'=>?_));simp[k1,k2,k3,k4,f1,j3,j5,a0,t7',t9',j6',s0,q7,ints,t5];repeat'(first|((first|refine hK' ?_|refine hB ?_);clear hK' hB K' B)|(apply hK';clear hK' K')|refine Ret.use c1 ?_|refine Ret.use c3 ?_|refine Ret.use c4 ?_|refine And.intro ?_ ?_|intro hg|(clear hK' K';omega)))|apply aqc|refine sp ?_|fail)
      exact ⟨by simp [t5],aqh (by assumption)⟩
  ·have l1':¬(l.length:Int)=1:=by omega
   rw [decide_eq_false l1,Bool.false_and,Bool.false_and]
   refine aqf Tryz.func86 rfl Tryz.ntmps86 (ts:=[2]) rfl (by simp) (by kernel_rfl) ?_
   repeat'(with_reducible first|(refine sp (hK _ _ ?_);clear hK K)|refine vr [] fun K hK=>?_|((first|refine aqa fun K' hK'=>?_|refine aqb fun K' B hK' hB=>?_|(apply aqk;refine aqe rfl fun K' hK'=>?_));simp[k1,k2,k3,k4,f1,j3,j5,a0,t7',t9',j6',s0,q7,rows,l1'];repeat'(first|((first|refine hK' ?_|refine hB ?_);clear hK' hB K' B)|(apply hK';clear hK' K')|refine Ret.use c1 ?_|refine Ret.use c3 ?_|intro hg|fail))|apply aqc|refine sp ?_|fail)
   exact ⟨by simp,aqh (by assumption)⟩
def eqc (m:Mtd):Int:=if bqm m 4=5 then 91 else if mayT m then 0 else 90
theorem eqz {m:Mtd} (hN:Nice m):Ret Tryz.prog w0 50 [mtA m] (I (eqc m)):=by
 have c1:=kq3 (w0:=w0) hN.len
 have c2:=may9_ret (w0:=w0) m hN
 intro H
 obtain ⟨t,n,a,b,l,xs⟩:=m
 rw [eqc]
 simp only [mtA,mtC] at c1 c2 ⊢
 generalize bqm (.mk t n a b l xs) 4=d at *
 generalize mayT (.mk t n a b l xs)=v at *
 refine aqf Tryz.func50 rfl Tryz.ntmps50 (ts:=[2]) rfl (by simp) (by kernel_rfl) ?_
 by_cases g:(d:Int)=5
 ·have g':d=5:=by omega
  subst g'
  repeat'(with_reducible first|(refine aqd (hK _ _ ?_);clear hK K)|refine vr [] fun K hK=>?_|((first|refine aqa fun K' hK'=>?_|refine aqb fun K' B hK' hB=>?_);simp;repeat'(first|((first|refine hK' ?_|refine hB ?_);clear hK' hB K' B)|(apply hK';clear hK' K')|refine Ret.use c1 ?_|intro hg|fail))|apply aqc|refine sp ?_|fail)
  exact ⟨by simp,aqh (by assumption)⟩
 ·have g':¬d=5:=by omega
  cases v with
  | true=>
   repeat'(with_reducible first|(refine aqd (hK _ _ ?_);clear hK K)|refine vr [] fun K hK=>?_|((first|refine aqa fun K' hK'=>?_|refine aqb fun K' B hK' hB=>?_);simp[g];repeat'(first|((first|refine hK' ?_|refine hB ?_);clear hK' hB K' B)|(apply hK';clear hK' K')|refine Ret.use c1 ?_|refine Ret.use c2 ?_|intro hg|fail))|apply aqc|refine sp ?_|fail)
   exact ⟨by simp [g'],aqh (by assumption)⟩
  | false=>
   repeat'(with_reducible first|(refine aqd (hK _ _ ?_);clear hK K)|refine vr [] fun K hK=>?_|((first|refine aqa fun K' hK'=>?_|refine aqb fun K' B hK' hB=>?_);simp[g];repeat'(first|((first|refine hK' ?_|refine hB ?_);clear hK' hB K' B)|(apply hK';clear hK' K')|refine Ret.use c1 ?_|refine Ret.use c2 ?_|intro hg|fail))|apply aqc|refine sp ?_|fail)
   exact ⟨by simp [g'],aqh (by assumption)⟩
end Go.Am
namespace Go.Am
set_option linter.unusedVariables false
set_option linter.unusedSimpArgs false
section
variable {p:Int} {n:Nat}
def SpL (p:Int) (n:Nat) (L:List (List Int)) (v:Nat->Int):Prop:=Spn p n (fun u=>∃ y∈L,u=vec y) v
def SpEq (p:Int) (n:Nat) (L M:List (List Int)):Prop:=(∀ u∈L,SpL p n M (vec u))/\∀ u∈M,SpL p n L (vec u)
theorem SpL.of {L:List (List Int)} {u:List Int} (h:u∈L):SpL p n L (vec u):=Spn.of ⟨u,h,rfl⟩
theorem SpL.trans {L M:List (List Int)} {v:Nat->Int} (hM:∀ u∈M,SpL p n L (vec u)) (h:SpL p n M v):SpL p n L v:=Spn.trans (fun u ⟨y,hy,e⟩=>e▸hM y hy) h
theorem SpEq.refl (L:List (List Int)):SpEq p n L L:=⟨fun u hu=> .of hu,fun u hu=> .of hu⟩
theorem SpEq.trans {L M K:List (List Int)} (h:SpEq p n L M) (k:SpEq p n M K):SpEq p n L K:=⟨fun u hu=>SpL.trans k.1 (h.1 u hu),fun u hu=>SpL.trans h.2 (k.2 u hu)⟩
theorem SpEq.mem {L M:List (List Int)} (h:∀ u,u∈L↔u∈M):SpEq p n L M:=⟨fun u hu=> .of ((h u).1 hu),fun u hu=> .of ((h u).2 hu)⟩
theorem SpEq.set {L:List (List Int)} {i c:Nat} (hi:i<L.length) (hc:c<L.length) (hic:i≠c) {k:Int} (h1:L[i].length=n) (h2:L[c].length=n):SpEq p n L (L.set i (subV p k L[i] L[c])):=by
 have hs:=subV_spn (p:=p) (k:=k) h1 h2
 have hcm:L[c]∈L.set i (subV p k L[i] L[c]):=by
  have:(L.set i (subV p k L[i] L[c]))[c]'(by simpa using hc)=L[c]:=by rw [List.getElem_set];simp [hic]
  have h':(L.set i (subV p k L[i] L[c]))[c]'(by simpa using hc)∈L.set i (subV p k L[i] L[c]):=List.getElem_mem _
  rwa [this] at h'
 constructor
 ·intro u hu
  obtain ⟨j,hj,rfl⟩:=List.mem_iff_getElem.1 hu
  by_cases e:j=i
  ·subst e
   have hm:subV p k L[j] L[c]∈L.set j (subV p k L[j] L[c]):=by
    have:(L.set j (subV p k L[j] L[c]))[j]'(by simpa using hj)=subV p k L[j] L[c]:=by rw [List.getElem_set];simp
    have h':(L.set j (subV p k L[j] L[c]))[j]'(by simpa using hj)∈L.set j (subV p k L[j] L[c]):=List.getElem_mem _
    rwa [this] at h'
   refine Spn.add k (Spn.of ⟨_,hm,rfl⟩) ⟨_,hcm,rfl⟩ hs
  ·have:(L.set i (subV p k L[i] L[c]))[j]'(by simpa using hj)=L[j]:=by rw [List.getElem_set];simp [Ne.symm e]
   rw [<-this];exact .of (List.getElem_mem _)
 ·intro u hu
  rcases List.mem_or_eq_of_mem_set hu with h | rfl
  ·exact .of h
  ·refine Spn.add (-k) (Spn.of ⟨L[i],List.getElem_mem _,rfl⟩) ⟨L[c],List.getElem_mem _,rfl⟩ fun j hj=> ?_
   have:=Int.dvd_neg.2 (hs j hj)
   rwa [show -(vec L[i] j-(vec (subV p k L[i] L[c]) j+k*vec L[c] j))=vec (subV p k L[i] L[c]) j-(vec L[i] j + -k*vec L[c] j) by grind] at this
theorem swap_mem {L:List (List Int)} {a c:Nat} (ha:a<L.length) (hc:c<L.length) (u:List Int):u∈(L.set a L[c]).set c L[a]↔u∈L:=by
 constructor
 ·intro h
  rcases List.mem_or_eq_of_mem_set h with h | rfl
  ·rcases List.mem_or_eq_of_mem_set h with h | rfl
   ·exact h
   ·exact List.getElem_mem _
  ·exact List.getElem_mem _
 ·intro h
  obtain ⟨j,hj,rfl⟩:=List.mem_iff_getElem.1 h
  rw [List.mem_iff_getElem]
  by_cases e1:j=a
  ·subst e1;exact ⟨c,by simpa using hc,by rw [List.getElem_set];simp⟩
  ·by_cases e2:j=c
   ·subst e2
    exact ⟨a,by simpa using ha,by rw [List.getElem_set,if_neg e1,List.getElem_set];simp⟩
   ·exact ⟨j,by simpa using hj,by rw [List.getElem_set,if_neg (Ne.symm e2),List.getElem_set,if_neg (Ne.symm e1)]⟩
structure RkI (p:Int) (n:Nat) (cols L:List (List Int)) (cnt row:Nat):Prop where
 len:L.length=cols.length
 ok:∀ u∈L,gq8 p n u
 sp:SpEq p n cols L
 cle:cnt<=L.length
 piv:∃ ps:List (Nat×List Int),ps.map (·.2)=L.take cnt/\Ech p n (ps.map fun s=>(s.1,vec s.2))/\(∀ s∈ps,s.1<row)/\∀ s∈ps,¬Zv p n (vec s.2)
 zero:∀ i (h:i<L.length),cnt<=i->∀ r,r<row->r<n->L[i].getD r 0=0
theorem RkI.start {cols:List (List Int)} (h:∀ u∈cols,gq8 p n u):RkI p n cols cols 0 0:=
 ⟨rfl,h,.refl _,by omega,⟨[],by simp,.nil,by simp,by simp⟩,fun i h _ r hr=>by omega⟩
theorem RkI.none {cols L:List (List Int)} {cnt row:Nat} (h:RkI p n cols L cnt row) (h0:∀ i (hi:i<L.length),cnt<=i->L[i].getD row 0=0):RkI p n cols L cnt (row+1):=by
 obtain ⟨ps,p1,p2,p3,p4⟩:=h.piv
 refine ⟨h.len,h.ok,h.sp,h.cle,⟨ps,p1,p2,fun s hs=>by have:=p3 s hs;omega,p4⟩,fun i hi hc r hr hn=> ?_⟩
 by_cases e:r=row
 ·subst e;exact h0 i hi hc
 ·exact h.zero i hi hc r (by omega) hn
structure ElI (p:Int) (n:Nat) (cols L:List (List Int)) (cnt row i:Nat):Prop where
 base:RkI p n cols L cnt row
 lt:cnt<L.length
 pv:(L[cnt]'lt).getD row 0≠0
 done:∀ j (h:j<L.length),cnt<j->j<i->L[j].getD row 0=0
theorem RkI.swap {cols L:List (List Int)} {cnt row a:Nat} (h:RkI p n cols L cnt row) (ha:a<L.length) (hc:cnt<=a) (hp:L[a].getD row 0≠0):
  ElI p n cols ((L.set a (L[cnt]'(by omega))).set cnt L[a]) cnt row (cnt+1):=by
 have hcl:cnt<L.length:=by omega
 have hmem:=swap_mem ha hcl
 refine ⟨⟨by simp [h.len],fun u hu=>h.ok u ((hmem u).1 hu),h.sp.trans (.mem fun u=>(hmem u).symm),by simp;omega,?_,fun i hi hci r hr hn=> ?_⟩,by simp;omega,?_,fun j hj h1 h2=>by omega⟩
 ·obtain ⟨ps,p1,p2,p3,p4⟩:=h.piv
  refine ⟨ps,?_,p2,p3,p4⟩
  rw [p1,List.take_set_of_le (by omega),List.take_set_of_le (by omega)]
 ·rw [List.length_set,List.length_set] at hi
  rw [List.getElem_set]
  split
  ·exact h.zero a ha hc r hr hn
  ·rw [List.getElem_set]
   split
   ·exact h.zero cnt hcl (Nat.le_refl _) r hr hn
   ·exact h.zero i hi hci r hr hn
 ·rw [List.getElem_set];simpa using hp
theorem ElI.step {cols L:List (List Int)} {cnt row i:Nat} (hp:0<p) (h:ElI p n cols L cnt row i) (hi:i<L.length) (hci:cnt<i) (hr:row<n) {k inv:Int} (hinv:(inv*(L[cnt]'h.lt).getD row 0)%p=1) (hk:k=L[i].getD row 0*inv%p):
  ElI p n cols (L.set i (subV p k L[i] (L[cnt]'h.lt))) cnt row (i+1):=by
 have h1:=h.base.ok _ (List.getElem_mem hi)
 have h2:=h.base.ok _ (List.getElem_mem h.lt)
 have hlt:=h.lt
 have key:∀ j (hj:j<L.length),(L.set i (subV p k L[i] (L[cnt]'h.lt)))[j]'(by simpa using hj)=if i=j then subV p k L[i] (L[cnt]'h.lt) else L[j]:=fun j hj=>by rw [List.getElem_set]
 refine ⟨⟨by simp [h.base.len],fun u hu=> ?_,h.base.sp.trans (.set hi h.lt (by omega) h1.len h2.len),by have:=h.base.cle;simpa using this,?_,fun j hj hcj r hr' hn=> ?_⟩,by simpa using h.lt,?_,fun j hj hj1 hj2=> ?_⟩
 ·rcases List.mem_or_eq_of_mem_set hu with hu | rfl
  ·exact h.base.ok u hu
  ·exact subV_ok hp h1.len h2.len
 ·obtain ⟨ps,p1,p2,p3,p4⟩:=h.base.piv
  exact ⟨ps,by rw [p1,List.take_set_of_le (by omega)],p2,p3,p4⟩
 ·rw [List.length_set] at hj
  rw [key j hj]
  split
  ·rw [gqt h1.len h2.len hn,h.base.zero i hi (by omega) r hr' hn,h.base.zero cnt h.lt (Nat.le_refl _) r hr' hn]
   simp
  ·exact h.base.zero j hj hcj r hr' hn
 ·rw [key cnt h.lt,if_neg (by omega)]
  exact h.pv
 ·rw [List.length_set] at hj
  rw [key j hj]
  split
  ·rename_i e
   subst e
   rw [gqt h1.len h2.len hr]
   have hz:p ∣ L[i].getD row 0-k*(L[cnt]'h.lt).getD row 0:=by
    have d1:p ∣ inv*(L[cnt]'h.lt).getD row 0-1:=by
     have:=Int.emod_add_mul_ediv (inv*(L[cnt]'h.lt).getD row 0) p
     exact ⟨inv*(L[cnt]'h.lt).getD row 0/p,by omega⟩
    have d2:=nqq (L[i].getD row 0*inv) p
    rw [<-hk] at d2
    have d3:=Int.dvd_sub (Int.dvd_mul_of_dvd_left (c:=(L[cnt]'h.lt).getD row 0) d2) (Int.dvd_mul_of_dvd_right (b:=L[i].getD row 0) d1)
    rwa [show (L[i].getD row 0*inv-k)*(L[cnt]'h.lt).getD row 0-L[i].getD row 0*(inv*(L[cnt]'h.lt).getD row 0-1)=L[i].getD row 0-k*(L[cnt]'h.lt).getD row 0 by grind] at d3
   exact Int.emod_eq_zero_of_dvd hz
  ·exact h.done j hj hj1 (by omega)
theorem ElI.fin {cols L:List (List Int)} {cnt row:Nat} (hinv:∀ a:Int,¬p ∣ a->∃ b,p ∣ a*b-1) (h:ElI p n cols L cnt row L.length) (hr:row<n):RkI p n cols L (cnt+1) (row+1):=by
 obtain ⟨ps,p1,p2,p3,p4⟩:=h.base.piv
 have h2:=h.base.ok _ (List.getElem_mem h.lt)
 have hb:=h2.bnd row hr
 have hnd:¬p ∣ (L[cnt]'h.lt).getD row 0:=fun k=>h.pv (by
  have:=Int.emod_eq_zero_of_dvd k
  rwa [Int.emod_eq_of_lt hb.1 hb.2] at this)
 have hlt:=h.lt
 refine ⟨h.base.len,h.base.ok,h.base.sp,by omega,⟨ps++[(row,L[cnt]'h.lt)],?_,?_,fun s hs=> ?_,fun s hs=> ?_⟩,fun i hi hc r hr' hn=> ?_⟩
 ·rw [List.map_append,p1,List.take_succ_eq_append_getElem h.lt];rfl
 ·rw [List.map_append]
  refine ech_snoc p2 hr (by simp only [vec];exact hinv _ hnd) fun s hs=> ?_
  obtain ⟨t,ht,rfl⟩:=List.mem_map.1 hs
  simp only [vec]
  have hlt2:t.1<n:=by
   have:∀ l:List (Nat×(Nat->Int)),Ech p n l->∀ s∈l,s.1<n:=by
    intro l hl
    induction hl with
    | nil=>simp
    | cons hr hu h0 hl ih=>intro s hs;rcases List.mem_cons.1 hs with rfl | hs;exact hr;exact ih s hs
   exact this _ p2 _ hs
  rw [h.base.zero cnt h.lt (Nat.le_refl _) t.1 (p3 t ht) hlt2]
  exact Int.dvd_zero p
 ·rcases List.mem_append.1 hs with hs | hs
  ·have:=p3 s hs;omega
  ·rw [List.mem_singleton.1 hs];exact Nat.lt_succ_self _
 ·rcases List.mem_append.1 hs with hs | hs
  ·exact p4 s hs
  ·rw [List.mem_singleton.1 hs]
   exact fun k=>hnd (k row hr)
 ·by_cases e:r=row
  ·subst e;exact h.done i hi (by omega) hi
  ·exact h.base.zero i hi (by omega) r (by omega) hn
theorem RkI.rank {cols L:List (List Int)} {cnt:Nat} (hinv:∀ a:Int,¬p ∣ a->∃ b,p ∣ a*b-1) (h:RkI p n cols L cnt n):(accL p n cols).length=cnt:=by
 obtain ⟨ps,p1,p2,p3,p4⟩:=h.piv
 have h1:=acc_ech ps p2 p4
 rw [p1] at h1
 have hpl:ps.length=cnt:=by
  have:=congrArg List.length p1
  rw [List.length_map,List.length_take] at this
  have:=h.cle
  omega
 have h2:=acc_span (n:=n) hinv (U:=cols) (V:=L.take cnt) (fun u hu=> ?_) fun v hv=> ?_
 ·rw [h2,h1];simp [hpl]
 ·refine SpL.trans (fun w hy=> ?_) (h.sp.1 u hu)
  obtain ⟨i,hi,rfl⟩:=List.mem_iff_getElem.1 hy
  by_cases c:i<cnt
  ·exact .of (by rw [List.mem_iff_getElem];exact ⟨i,by simp;omega,by simp⟩)
  ·exact .zero fun r hr=>by
    simp only [vec]
    rw [h.zero i hi (by omega) r hr hr]
    exact Int.dvd_zero p
 ·exact h.sp.2 v (List.mem_of_mem_take hv)
end
end Go.Am
namespace Go.Am
open Go Go.Proofs
set_option linter.unusedVariables false
set_option linter.unusedSimpArgs false
variable {w0:World}
attribute [local irreducible] AWP aqo
attribute [local congr] aqp
theorem hq4 {α:Type} {l:List α} (h:l.Nodup) {i j:Nat} (hi:i<l.length) (hj:j<l.length) (e:l[i]=l[j]):i=j:=by
 rcases Nat.lt_trichotomy i j with k | k | k
 ·exact absurd e (List.pairwise_iff_getElem.1 h i j hi hj k)
 ·exact k
 ·exact absurd e.symm (List.pairwise_iff_getElem.1 h j i hj hi k)
def refC (n:Nat) (rs:List Nat):List AV:=rs.map fun r=> .ref r 0 n n
structure Fam (H h:Heap) (M n:Nat) (rs:List Nat) (L:List (List Int)):Prop where
 len:rs.length=L.length
 nd:rs.Nodup
 hM:h M=some (.arr 1 26 (refC n rs) rs.length)
 mr:M∉rs
 at':∀ i (h1:i<rs.length) (h2:i<L.length),h rs[i]=some (.arr 1 3 (L[i].map I) n)
 fM:H M=none
 fr:∀ r∈rs,H r=none
 sub:Sub H h
theorem mqv {n i:Nat} {rs:List Nat} (h:i<rs.length):(refC n rs)[i]? =some (.ref rs[i] 0 n n):=by simp [refC,h]
theorem mqu (n:Nat) (rs:List Nat):(refC n rs).length=rs.length:=by simp [refC]
theorem Fam.set {H h:Heap} {M n i:Nat} {rs:List Nat} {L:List (List Int)} (F:Fam H h M n rs L) (hi:i<rs.length) (u:List Int):Fam H (upd h rs[i] (some (.arr 1 3 (u.map I) n))) M n rs (L.set i u):=by
 have hm:rs[i]∈rs:=List.getElem_mem _
 refine ⟨by simp [F.len],F.nd,?_,F.mr,fun j h1 h2=> ?_,F.fM,F.fr,F.sub.upd (F.fr _ hm) _⟩
 ·rw [aqm _ _ _ (fun e=>F.mr (by rw [e];exact hm))];exact F.hM
 ·rw [List.getElem_set]
  by_cases e:i=j
  ·subst e;rw [aqj,if_pos rfl]
  ·rw [if_neg e,aqm _ _ _ fun k=>e (hq4 F.nd hi h1 k.symm)]
   exact F.at' j h1 (by simpa using h2)
theorem Fam.swap {H h:Heap} {M n a c:Nat} {rs:List Nat} {L:List (List Int)} (F:Fam H h M n rs L) (ha:a<rs.length) (hc:c<rs.length) (ha':a<L.length) (hc':c<L.length):
  Fam H (upd (upd h M (some (.arr 1 26 ((refC n rs).set a (.ref rs[c] 0 n n)) rs.length))) M (some (.arr 1 26 (((refC n rs).set a (.ref rs[c] 0 n n)).set c (.ref rs[a] 0 n n)) rs.length))) M n ((rs.set a rs[c]).set c rs[a]) ((L.set a L[c]).set c L[a]):=by
 have hmem:∀ r,r∈(rs.set a rs[c]).set c rs[a]->r∈rs:=fun r h=>by
  rcases List.mem_or_eq_of_mem_set h with h | rfl
  ·rcases List.mem_or_eq_of_mem_set h with h | rfl
   ·exact h
   ·exact List.getElem_mem _
  ·exact List.getElem_mem _
 have get:∀ i (h1:i<rs.length),((rs.set a rs[c]).set c rs[a])[i]'(by simpa using h1)=rs[if i=c then a else if i=a then c else i]'(by split;exact ha;split;exact hc;exact h1):=fun i h1=>by
  rw [List.getElem_set]
  by_cases e:c=i
  ·subst e;simp
  ·rw [if_neg e,List.getElem_set]
   by_cases e2:a=i
   ·subst e2;simp [Ne.symm e]
   ·simp [e2,Ne.symm e,Ne.symm e2]
 have getL:∀ i (h1:i<L.length),((L.set a L[c]).set c L[a])[i]'(by simpa using h1)=L[if i=c then a else if i=a then c else i]'(by split;exact ha';split;exact hc';exact h1):=fun i h1=>by
  rw [List.getElem_set]
  by_cases e:c=i
  ·subst e;simp
  ·rw [if_neg e,List.getElem_set]
   by_cases e2:a=i
   ·subst e2;simp [Ne.symm e]
   ·simp [e2,Ne.symm e,Ne.symm e2]
 refine ⟨by simp [F.len],?_,?_,fun h=>F.mr (hmem _ h),fun i h1 h2=> ?_,F.fM,fun r hr=>F.fr r (hmem r hr),?_⟩
 ·rw [List.Nodup,List.pairwise_iff_getElem]
  intro i j hi hj hij k
  simp only [List.length_set] at hi hj
  rw [get i hi,get j hj] at k
  have:=hq4 F.nd _ _ k
  split at this<;>split at this<;>(try split at this)<;>(try split at this)<;>omega
 ·rw [aqj]
  simp [refC,List.map_set]
 ·simp only [List.length_set] at h1 h2
  rw [get i h1,getL i h2,aqx,aqm _ _ _ (fun e=>F.mr (by rw [<-e];exact List.getElem_mem _))]
  exact F.at' _ _ _
 ·rw [aqx];exact F.sub.upd F.fM _
theorem Fam.swap' {H h:Heap} {M n a c m ra rc:Nat} {rs:List Nat} {L:List (List Int)} {la lc:List Int} (F:Fam H h M n rs L) (hm:rs.length=m) (ha:a<rs.length) (hc:c<rs.length) (ha':a<L.length) (hc':c<L.length) (e1:rs[a]=ra) (e2:rs[c]=rc) (e3:L[a]=la) (e4:L[c]=lc):
  Fam H (upd (upd h M (some (.arr 1 26 ((refC n rs).set a (.ref rc 0 n n)) m))) M (some (.arr 1 26 (((refC n rs).set a (.ref rc 0 n n)).set c (.ref ra 0 n n)) m))) M n ((rs.set a rc).set c ra) ((L.set a lc).set c la):=by
 subst hm e1 e2 e3 e4
 exact F.swap ha hc ha' hc'
theorem Fam.snoc {H h:Heap} {M n r:Nat} {rs:List Nat} {L:List (List Int)} {c:List Int} (F:Fam H h M n rs L) (hr:h r=none):Fam H (upd (upd h r (some (.arr 1 3 (c.map I) n))) M (some (.arr 1 26 (refC n rs++[.ref r 0 n n]) (rs.length+1)))) M n (rs++[r]) (L++[c]):=by
 have hMr:M≠r:=by rintro rfl;rw [F.hM] at hr;cases hr
 have hrr:r∉rs:=fun hm=>by
  obtain ⟨i,hi,rfl⟩:=List.mem_iff_getElem.1 hm
  rw [F.at' i hi (by rw [<-F.len];exact hi)] at hr;cases hr
 have hHr:H r=none:=by
  cases e:H r with
  | none=>rfl
  | some k=>have:=F.sub _ _ e;rw [hr] at this;cases this
 refine ⟨by simp [F.len],?_,?_,?_,fun i h1 h2=> ?_,F.fM,fun x hx=> ?_,(F.sub.upd hHr _).upd F.fM _⟩
 ·rw [List.nodup_append]
  exact ⟨F.nd,by simp,fun a ha b hb e=>hrr (by simp at hb;rw [<-hb,<-e];exact ha)⟩
 ·rw [aqj];simp [refC]
 ·simp only [List.mem_append,List.mem_singleton]
  rintro (k | k)
  ·exact F.mr k
  ·exact hMr k
 ·simp only [List.length_append,List.length_singleton] at h1 h2
  by_cases e:i<rs.length
  ·have e':i<L.length:=by rw [<-F.len];exact e
   rw [List.getElem_append_left e,List.getElem_append_left e',aqm _ _ _ (fun k=>F.mr (by rw [<-k];exact List.getElem_mem _)),aqm _ _ _ (fun k=>hrr (by rw [<-k];exact List.getElem_mem _))]
   exact F.at' i e e'
  ·have e1:i=rs.length:=by omega
   have e2:i=L.length:=by rw [e1];exact F.len
   rw [List.getElem_append_right (by omega),List.getElem_append_right (by omega)]
   simp only [e1,Nat.sub_self,List.getElem_singleton]
   rw [aqm _ _ _ hMr.symm,aqj]
 ·rcases List.mem_append.1 hx with hx | hx
  ·exact F.fr x hx
  ·rw [List.mem_singleton.1 hx];exact hHr
theorem inv_ex {p:Int} (hp:p<=100) (h:bqg p=true):∀ a:Int,¬p ∣ a->∃ b,p ∣ a*b-1:=fun a ha=>by
 have h2:2<=p:=by simp only [bqg,Bool.and_eq_true,decide_eq_true_eq] at h;exact h.1
 have hm0:=Int.emod_nonneg a (show p≠0 by omega)
 have hm1:=Int.emod_lt_of_pos a (show 0<p by omega)
 have hne:a%p≠0:=fun k=>ha (Int.dvd_of_emod_eq_zero k)
 have hi:=nqd (a:=a%p) hp h (by omega) hm1
 refine ⟨(a%p)^(p-2).toNat%p,?_⟩
 have e1:((a%p)^(p-2).toNat%p*a)%p=1:=by
  rw [<-cqk];exact hi
 have:=Int.emod_add_mul_ediv ((a%p)^(p-2).toNat%p*a) p
 exact ⟨(a%p)^(p-2).toNat%p*a/p,by rw [Int.mul_comm a];omega⟩
set_option maxHeartbeats 8000000 in
set_option maxRecDepth 20000 in
theorem rank5_ret {p:Int} {n:Nat} {cols:List (List Int)} (hp:p<=100) (hmay:mayE p n cols=true):Ret Tryz.prog w0 185 [I p,I n,rows cols] (I (accL p n cols).length):=by
 intro H
 obtain ⟨m,e,hn,hm,hpr,hok⟩:=mq7 hmay
 obtain rfl:n=m:=by omega
 have hp2:2<=p:=by simp only [bqg,Bool.and_eq_true,decide_eq_true_eq] at hpr;exact hpr.1
 have hinv:=inv_ex hp hpr
 refine aqf Tryz.func185 rfl Tryz.ntmps185 (ts:=[6]) rfl (by simp) (by kernel_rfl) ?_
 repeat'(with_reducible first|(refine sp (hK _ _ ?_);clear hK K)|((fail_if_success(refine aql 3 ?_));(fail_if_success(refine(?_:AWP _ _ _ (Code.region 3 _ _) _ _ _)));refine vr [19] fun K hK=>?_)|(refine aqa fun K' hK'=>?_;simp[rows];repeat'(first|(apply hK';clear hK' K')|intro hg|fail))|((fail_if_success(refine aql 3 ?_));refine sp ?_)|fail)
 rename_i M
 have hM:H M=none:=hg
 clear hg
 refine aqi (fun env h=>∃ (q:Nat) (rs:List Nat),q<=cols.length/\rs.length=q/\Fam H h M n rs (cols.take q)/\env 8=I q/\env 7= .ref M 0 q q/\env 0=I p/\env 1=I n/\env 2=rows cols) (fun env _=>cols.length-natA (env 8)) ?_ ?_
 ·exact ⟨0,[],by omega,rfl,⟨by simp,by simp,by simp [refC],by simp,by simp,hM,by simp,aqh hM⟩,by simp,by simp,by simp,by simp,by simp [rows]⟩
 rintro env h ⟨q,rs,hq,hrl,F,h8,h7,h0,h1,h2⟩
 have hnat:natA (env 8)=q:=by simp [h8]
 rw [hnat];clear hnat
 have lM:=F.hM
 rw [hrl] at lM
 by_cases hlt:q<cols.length
 ·have hcl:=(hok cols[q] (List.getElem_mem _)).len
  have htk:cols.take (q+1)=cols.take q++[cols[q]]:=List.take_succ_eq_append_getElem hlt
  have hcq:∀ h:q<cols.length,cols[q]'h=cols[q]:=fun _=>rfl
  generalize hcc:cols[q]=c at *
  repeat'(with_reducible first|(refine sp (hK _ _ ?_);clear hK K)|refine vr [27] fun K hK=>?_|(refine aqa fun K' hK'=>?_;simp[h8,h7,h0,h1,h2,rows,ints,hlt,hcc,lM,hcl];repeat'(first|(apply hK';clear hK' K')|refine And.intro ?_ ?_|intro hg|(clear hK' K';omega)))|(with_reducible refine aqb fun A B hA hB=>?_;simp[h8,h7,h0,h1,h2,rows,ints,hlt,hcc,lM,hcl];repeat'(with_reducible first|(apply hA;clear hA hB A B)|(apply hB;clear hA hB A B)|refine And.intro ?_ ?_|intro hc))|refine sp ?_|fail)
  rename_i r
  have hr:h r=none:=hg
  clear hg
  have hMr:M≠r:=by rintro rfl;rw [lM] at hr;cases hr
  simp only [if_neg hMr,true_and]
  with_reducible refine hK' _ _ ?_
  clear hK' K'
  repeat'(with_reducible first|(refine sp (hK _ _ ?_);clear hK K)|refine vr [] fun K hK=>?_|(refine aqa fun K' hK'=>?_;simp[h8,h7,h0,h1,h2,rows,ints,hlt,hcc,lM,hcl];repeat'(first|(apply hK';clear hK' K')|refine And.intro ?_ ?_|(clear hK' K';omega)))|refine sp ?_|fail)
  refine ⟨⟨q+1,rs++[r],by omega,by simp [hrl],?_,by simp,by simp,by simp [h0],by simp [h1],by simp [h2,rows]⟩,by simp;omega⟩
  rw [htk]
  have:=F.snoc (c:=c) hr
  rw [hrl] at this
  rwa [List.take_of_length_le (by simp;omega)]
 obtain rfl:q=cols.length:=by omega
 rw [List.take_of_length_le (Nat.le_refl _)] at F
 repeat'(with_reducible first|(refine sp (hK _ _ ?_);clear hK K)|refine vr [] fun K hK=>?_|(refine aqa fun K' hK'=>?_;simp[h8,h7,h0,h1,h2,rows];repeat'(first|(apply hK';clear hK' K')|fail))|(with_reducible refine aqb fun A B hA hB=>?_;simp[h8,h7,h0,h1,h2,rows];repeat'(with_reducible first|(apply hA;clear hA hB A B)|(apply hB;clear hA hB A B)|refine And.intro ?_ ?_|intro hc))|refine sp ?_|fail)
 generalize hml:cols.length=m at *
 refine aqi (fun env h=>∃ (row cnt:Nat) (rs:List Nat) (L:List (List Int)),row<=n/\rs.length=m/\Fam H h M n rs L/\RkI p n cols L cnt row/\env 10=I row/\env 9=I cnt/\env 7= .ref M 0 m m/\env 0=I p/\env 1=I n) (fun env _=>n-natA (env 10)) ?_ ?_
 ·exact ⟨0,0,rs,cols,by omega,hrl,F,RkI.start hok,by simp,by simp,by simp [h7],by simp [h0],by simp [h1]⟩
 clear h8 h7 h0 h1 h2 lM F hrl rs h env
 rintro env h ⟨row,cnt,rs,L,hrow,hrl,F,hR,h10,h9,h7,h0,h1⟩
 have hnat:natA (env 10)=row:=by simp [h10]
 rw [hnat];clear hnat
 have lM:=F.hM
 rw [hrl] at lM
 have hLm:L.length=m:=by rw [<-F.len];exact hrl
 have hcm:=hR.cle
 rw [hLm] at hcm
 by_cases hlt:row<n
 ·repeat'(with_reducible first|(refine sp (hK _ _ ?_);clear hK K)|refine vr [] fun K hK=>?_|(refine aqa fun K' hK'=>?_;simp[h10,h9,h7,h0,h1,hlt];repeat'(first|(apply hK';clear hK' K')|fail))|(with_reducible refine aqb fun A B hA hB=>?_;simp[h10,h9,h7,h0,h1,hlt];repeat'(with_reducible first|(apply hA;clear hA hB A B)|(apply hB;clear hA hB A B)|refine And.intro ?_ ?_|intro hc))|refine sp ?_|fail)
  refine aqi (fun env h'=>∃ (i:Nat) (a:Int),cnt<=i/\i<=m/\h=h'/\(a<0->∀ j (hj:j<L.length),cnt<=j->j<i->L[j].getD row 0=0)/\(0<=a->∃ a':Nat,a=a'/\cnt<=a'/\∃ h:a'<L.length,L[a'].getD row 0≠0)/\env 12=I i/\env 11=I a/\env 10=I row/\env 9=I cnt/\env 7= .ref M 0 m m/\env 0=I p/\env 1=I n) (fun env _=>m-natA (env 12)) ?_ ?_
  ·exact ⟨cnt,-1,by omega,by omega,rfl,fun _ j hj h1 h2=>by omega,fun h=>by omega,by simp,by simp,by simp [h10],by simp [h9],by simp [h7],by simp [h0],by simp [h1]⟩
  clear h10 h9 h7 h0 h1 env
  rintro env h' ⟨i,a,hi,him,rfl,ha0,ha1,h12,h11,h10,h9,h7,h0,h1⟩
  have hnat:natA (env 12)=i:=by simp [h12]
  rw [hnat];clear hnat
  by_cases hil:i<m
  ·have hLi:i<L.length:=by omega
   have hri:i<rs.length:=by omega
   have g1:=mqv (n:=n) hri
   have g2:=F.at' i hri hLi
   have g3:=(hR.ok _ (List.getElem_mem hLi)).len
   have g4:=mqu n rs
   by_cases ha:a<0
   ·have g5:row<L[i].length:=by omega
    have g6:∀ h:row<L[i].length,L[i][row]'h=L[i].getD row 0:=fun h=>by simp [h]
    have g7:L[i][row]? =some (L[i].getD row 0):=by simp [g5]
    have g8:∀ h,(refC n rs)[i]'h= .ref rs[i] 0 n n:=fun h=>by simp [refC]
    have hnew:L[i].getD row 0=0->∀ j (hj:j<L.length),cnt<=j->j<i+1->L[j].getD row 0=0:=fun h0 j hj h1 h2=>by
     by_cases e:j=i
     ·subst e;exact h0
     ·exact ha0 ha j hj h1 (by omega)
    generalize hv:L[i].getD row 0=v at *
    generalize hLL:L[i]=Li at *
    generalize hrr:rs[i]=ri at *
    by_cases hv0:v=0
    ·repeat'(with_reducible first|(refine sp (hK _ _ ?_);clear hK K)|refine vr [] fun K hK=>?_|((first|refine aqa fun K' hK'=>?_|(apply aqk;refine aqe rfl fun K' hK'=>?_));simp[h12,h11,h10,h9,h7,h0,h1,hil,ha,lM,g1,g2,g3,g4,g5,g6,g7,g8,hv0,hlt,hri,hrl];repeat'(first|(apply hK';clear hK' K')|refine And.intro ?_ ?_|(clear hK' K';omega)))|(with_reducible refine aqb fun A B hA hB=>?_;simp[h12,h11,h10,h9,h7,h0,h1,hil,ha,lM,g1,g2,g3,g4,g5,g6,g7,g8,hv0,hlt,hri,hrl];repeat'(with_reducible first|(apply hA;clear hA hB A B)|(apply hB;clear hA hB A B)|refine And.intro ?_ ?_|intro hc))|refine sp ?_|fail)
     exact ⟨⟨i+1,a,by omega,by omega,rfl,fun _=>hnew hv0,ha1,by simp,by simp [h11],by simp [h10],by simp [h9],by simp [h7],by simp [h0],by simp [h1]⟩,by simp;omega⟩
    ·repeat'(with_reducible first|(refine sp (hK _ _ ?_);clear hK K)|refine vr [] fun K hK=>?_|((first|refine aqa fun K' hK'=>?_|(apply aqk;refine aqe rfl fun K' hK'=>?_));simp[h12,h11,h10,h9,h7,h0,h1,hil,ha,lM,g1,g2,g3,g4,g5,g6,g7,g8,hv0,hlt,hri,hrl];repeat'(first|(apply hK';clear hK' K')|refine And.intro ?_ ?_|(clear hK' K';omega)))|(with_reducible refine aqb fun A B hA hB=>?_;simp[h12,h11,h10,h9,h7,h0,h1,hil,ha,lM,g1,g2,g3,g4,g5,g6,g7,g8,hv0,hlt,hri,hrl];repeat'(with_reducible first|(apply hA;clear hA hB A B)|(apply hB;clear hA hB A B)|refine And.intro ?_ ?_|intro hc))|refine sp ?_|fail)
     exact ⟨⟨i+1,i,by omega,by omega,rfl,fun h=>by omega,fun _=>⟨i,rfl,hi,hLi,by rw [hLL,hv];exact hv0⟩,by simp,by simp,by simp [h10],by simp [h9],by simp [h7],by simp [h0],by simp [h1]⟩,by simp;omega⟩
   ·repeat'(with_reducible first|(refine sp (hK _ _ ?_);clear hK K)|refine vr [] fun K hK=>?_|((first|refine aqa fun K' hK'=>?_|(apply aqk;refine aqe rfl fun K' hK'=>?_));simp[h12,h11,h10,h9,h7,h0,h1,hil,ha];repeat'(first|(apply hK';clear hK' K')|refine And.intro ?_ ?_|(clear hK' K';omega)))|(with_reducible refine aqb fun A B hA hB=>?_;simp[h12,h11,h10,h9,h7,h0,h1,hil,ha];repeat'(with_reducible first|(apply hA;clear hA hB A B)|(apply hB;clear hA hB A B)|refine And.intro ?_ ?_|intro hc))|refine sp ?_|fail)
    exact ⟨⟨i+1,a,by omega,by omega,rfl,fun h=>absurd h ha,ha1,by simp,by simp [h11],by simp [h10],by simp [h9],by simp [h7],by simp [h0],by simp [h1]⟩,by simp;omega⟩
  ·obtain rfl:m=i:=by omega
   by_cases ha:a<0
   ·repeat'(with_reducible first|(refine sp (hK _ _ ?_);clear hK K)|refine vr [] fun K hK=>?_|(refine aqa fun K' hK'=>?_;simp[h12,h11,h10,h9,h7,h0,h1,ha];repeat'(first|(apply hK';clear hK' K')|refine And.intro ?_ ?_|(clear hK' K';omega)))|(with_reducible refine aqb fun A B hA hB=>?_;simp[h12,h11,h10,h9,h7,h0,h1,ha];repeat'(with_reducible first|(apply hA;clear hA hB A B)|(apply hB;clear hA hB A B)|refine And.intro ?_ ?_|intro hc))|refine sp ?_|fail)
    refine ⟨⟨row+1,cnt,rs,L,by omega,hrl,F,hR.none (fun j hj h1=>ha0 ha j hj h1 (by omega)),by simp,by simp [h9],by simp [h7],by simp [h0],by simp [h1]⟩,by simp;omega⟩
   ·obtain ⟨at',rfl,hca,hat,hpv⟩:=ha1 (by omega)
    have g4:=mqu n rs
    have hcl:cnt<L.length:=by omega
    have h1':at'<m:=by omega
    have h2':cnt<m:=by omega
    have r1:at'<rs.length:=by omega
    have r2:cnt<rs.length:=by omega
    obtain ⟨ra,hra⟩:∃ x,rs[at']=x:=⟨_,rfl⟩
    obtain ⟨rc,hrc⟩:∃ x,rs[cnt]=x:=⟨_,rfl⟩
    obtain ⟨la,hla⟩:∃ x,L[at']=x:=⟨_,rfl⟩
    obtain ⟨lc,hlc⟩:∃ x,L[cnt]=x:=⟨_,rfl⟩
    have g1:=mqv (n:=n) r1
    have g2:=mqv (n:=n) r2
    have g3:∀ h,(refC n rs)[at']'h= .ref ra 0 n n:=fun h=>by simp [refC,hra]
    have g5:∀ h,(refC n rs)[cnt]'h= .ref rc 0 n n:=fun h=>by simp [refC,hrc]
    have F1:=F.swap' hrl r1 r2 hat hcl hra hrc hla hlc
    have E1:=hR.swap hat hca hpv
    have f1:=F.at' at' r1 hat
    have f2:=(hR.ok _ (List.getElem_mem hat)).len
    have f3:=(hR.ok _ (List.getElem_mem hat)).bnd row hlt
    rw [hla,hlc] at E1
    rw [hra] at g1 f1
    rw [hrc] at g2
    rw [hla] at f1 f2 f3 hpv
    have hl1:((rs.set at' rc).set cnt ra).length=m:=by simp;omega
    have hl2:((L.set at' lc).set cnt la).length=m:=by simp;omega
    have hl3:∀ h,((rs.set at' rc).set cnt ra)[cnt]'h=ra:=by simp
    have hl4:∀ h,((L.set at' lc).set cnt la)[cnt]'h=la:=by simp
    have hat':=F1.at' cnt (by omega) (by omega)
    rw [hl3,hl4] at hat'
    have hM1:=F1.hM
    rw [hl1] at hM1
    rw [aqx] at F1 hat' hM1
    generalize (rs.set at' rc).set cnt ra=rs' at *
    generalize (L.set at' lc).set cnt la=L' at *
    repeat'(with_reducible first|(refine sp (hK _ _ ?_);clear hK K)|((fail_if_success(refine aql 20 ?_));(fail_if_success(refine(?_:AWP _ _ _ (Code.region 20 _ _) _ _ _)));refine vr [] fun K hK=>?_)|(refine aqa fun K' hK'=>?_;simp[h12,h11,h10,h9,h7,h0,h1,ha,lM,g1,g2,g3,g4,g5,hrl,h1',h2'];repeat'(first|(apply hK';clear hK' K')|refine And.intro ?_ ?_|(clear hK' K';omega)))|(with_reducible refine aqb fun A B hA hB=>?_;simp[h12,h11,h10,h9,h7,h0,h1,ha,lM,g1,g2,g3,g4,g5,hrl,h1',h2'];repeat'(with_reducible first|(apply hA;clear hA hB A B)|(apply hB;clear hA hB A B)|refine And.intro ?_ ?_|intro hc))|((fail_if_success(refine aql 20 ?_));refine sp ?_)|fail)
    generalize upd h M _=h' at *
    have hrl2:row<la.length:=by omega
    have k1:∀ h:row<la.length,la[row]'h=la.getD row 0:=fun h=>by simp [h]
    have k2:la[row]? =some (la.getD row 0):=by simp [hrl2]
    have k3:¬la.getD row 0%p=0:=by rw [Int.emod_eq_of_lt f3.1 f3.2];exact hpv
    have k4:=inv4_ret (w0:=w0) hp hpr k3
    have k5:=nqd hp hpr (show 0<la.getD row 0 by omega) f3.2
    generalize hpz:la.getD row 0=pz at *
    have k6:=Int.emod_nonneg (pz^(p-2).toNat) (show p≠0 by omega)
    have k7:=Int.emod_lt_of_pos (pz^(p-2).toNat) (show 0<p by omega)
    generalize pz^(p-2).toNat%p=iv at *
    repeat'(with_reducible first|(refine sp (hK _ _ ?_);clear hK K)|refine vr [] fun K hK=>?_|(refine aqa fun K' hK'=>?_;simp[h12,h11,h10,h9,h7,h0,h1,hM1,hat',hrl2,k1,k2,k3,f2,hlt];repeat'(first|(apply hK';clear hK' K')|refine Ret.use k4 ?_|refine And.intro ?_ ?_|(clear hK' K';omega)))|refine sp ?_|fail)
    have hab:=(hR.ok _ (List.getElem_mem hat)).bnd
    rw [hla] at hab
    refine aqi (fun env h=>∃ (i:Nat) (L:List (List Int)),cnt<i/\i<=m/\L.length=m/\(∃ g:cnt<L.length,L[cnt]=la)/\Fam H h M n rs' L/\ElI p n cols L cnt row i/\env 16=I i/\env 14=I iv/\env 13= .ref ra 0 n n/\env 10=I row/\env 9=I cnt/\env 7= .ref M 0 m m/\env 0=I p/\env 1=I n) (fun env _=>m-natA (env 16)) ?_ ?_
    ·exact ⟨cnt+1,L',by omega,by omega,hl2,⟨by omega,hl4 _⟩,F1,E1,by simp,by simp,by simp,by simp [h10],by simp [h9],by simp [h7],by simp [h0],by simp [h1]⟩
    clear h12 h11 h10 h9 h7 h0 h1 F1 hat' hM1 lM F hR hLm E1 hl4 hl2
    clear hla hlc ha1 ha0 hcl hat f1 g1 g2 g3 g5 r1 r2 hra hrc g4 hrl rs k4
    clear L' L h' h env
    rintro env h ⟨i,L,hci,him,hLm,⟨hcL,hLc⟩,F,E,h16,h14,h13,h10,h9,h7,h0,h1⟩
    have hnat:natA (env 16)=i:=by simp [h16]
    rw [hnat];clear hnat
    have lM:=F.hM
    rw [hl1] at lM
    by_cases hil:i<m
    ·have hiL:i<L.length:=by omega
     have hir:i<rs'.length:=by omega
     have hok':=E.base.ok _ (List.getElem_mem hiL)
     have q1:=mqv (n:=n) hir
     have q2:=F.at' i hir hiL
     have q3:∀ h,(refC n rs')[i]'h= .ref rs'[i] 0 n n:=fun h=>by simp [refC]
     have E2:=fun k h2=>E.step (inv:=iv) (by omega) hiL hci hlt (k:=k) (by rw [hLc,hpz];exact k5) h2
     have F2:=fun u=>F.set hir u
     have hcr:cnt<rs'.length:=by omega
     have q5:=F.at' cnt hcr hcL
     have hne:rs'[i]≠ra:=fun e=>by
      have:=hq4 F.nd hir hcr (by rw [e,hl3])
      omega
     rw [hl3,hLc] at q5
     have q6:=mqu n rs'
     have hMr:M≠rs'[i]:=fun e=>F.mr (by rw [e];exact List.getElem_mem _)
     have hset0:∀ u v:List Int,(L.set i u).set i v=L.set i v:=fun u v=>by simp
     have hat0:∀ u:List Int,∀ g,(L.set i u)[i]'g=u:=fun u g=>by simp
     have hatc:∀ u:List Int,∀ g,(L.set i u)[cnt]'g=la:=fun u g=>by rw [List.getElem_set,if_neg (by omega)];exact hLc
     have hid:L.set i L[i]=L:=by simp
     have hbi:=hok'.bnd
     have hli:=hok'.len
     rw [hLc] at E2
     obtain ⟨x,hx⟩:∃ x,L[i]=x:=⟨_,rfl⟩
     obtain ⟨ri,hri⟩:∃ x,rs'[i]=x:=⟨_,rfl⟩
     rw [hx] at q2 E2 hok' hid hbi hli
     rw [hri] at q1 q2 q3 F2 hne hMr
     have q7:row<x.length:=by omega
     have q8:∀ h:row<x.length,x[row]'h=x.getD row 0:=fun h=>by simp [h]
     have q9:x[row]? =some (x.getD row 0):=by simp [q7]
     have q10:=hbi row hlt
     have E3:=E2 (x.getD row 0*iv%p) rfl
     generalize hxr:x.getD row 0=xr at *
     have hxi0:0<=xr*iv:=Int.mul_nonneg q10.1 k6
     have hxi1:xr*iv<=10000:=by
      have:xr*iv<=100*100:=Int.mul_le_mul (by omega) (by omega) k6 (by omega)
      omega
     have htm:=Int.tmod_eq_emod_of_nonneg (b:=p) hxi0
     have hp0:p≠0:=by omega
     have hkk0:=Int.emod_nonneg (xr*iv) hp0
     have hkk1:=Int.emod_lt_of_pos (xr*iv) (show 0<p by omega)
     repeat'(with_reducible first|(refine sp (hK _ _ ?_);clear hK K)|refine vr [] fun K hK=>?_|(refine aqa fun K' hK'=>?_;simp[h16,h14,h13,h10,h9,h7,h0,h1,hil,lM,q1,q2,q3,q6,q7,q8,q9,hlt,hli,htm,hp0,hl1];repeat'(first|(apply hK';clear hK' K')|refine And.intro ?_ ?_|(clear hK' K';omega)))|(with_reducible refine aqb fun A B hA hB=>?_;simp[h16,h14,h13,h10,h9,h7,h0,h1,hil,lM,q1,q2,q3,q6,q7,q8,q9,hlt,hli,htm,hp0,hl1];repeat'(with_reducible first|(apply hA;clear hA hB A B)|(apply hB;clear hA hB A B)|refine And.intro ?_ ?_|intro hc))|refine sp ?_|fail)
     generalize xr*iv%p=kk at *
     have hmlen:=fun j hj=>mixV_len (p:=p) (k:=kk) (j:=j) hli f2 hj
     have hsl:=eq1 (p:=p) (k:=kk) hli f2
     refine aqi (fun env h=>∃ j:Nat,j<=n/\Fam H h M n rs' (L.set i (mixV p kk x la j))/\env 18=I j/\env 17=I kk/\env 16=I i/\env 14=I iv/\env 13= .ref ra 0 n n/\env 10=I row/\env 9=I cnt/\env 7= .ref M 0 m m/\env 0=I p/\env 1=I n) (fun env _=>n-natA (env 18)) ?_ ?_
     ·exact ⟨0,by omega,by simp [mixV,hid];exact F,by simp,by simp,by simp [h16],by simp [h14],by simp [h13],by simp [h10],by simp [h9],by simp [h7],by simp [h0],by simp [h1]⟩
     clear h16 h14 h13 h10 h9 h7 h0 h1 F2 F lM q2 q5
     clear h env
     rintro env h ⟨j,hj,F,h18,h17,h16,h14,h13,h10,h9,h7,h0,h1⟩
     have hnat:natA (env 18)=j:=by simp [h18]
     rw [hnat];clear hnat
     have lM:=F.hM
     rw [hl1] at lM
     have hmlj:=hmlen j hj
     by_cases hjn:j<n
     ·have hma:=mixV_at (p:=p) (k:=kk) hli f2 hjn
      have hms:=mixV_set (p:=p) (k:=kk) hli f2 hjn
      have hcj:=hbi j hjn
      have hxj:=hab j hjn
      have q2:=F.at' i hir (by simpa using hiL)
      have q5:=F.at' cnt hcr (by simpa using hcL)
      have F2:=fun u=>F.set hir u
      rw [hri,hat0] at q2
      rw [hl3,hatc] at q5
      rw [hri] at F2
      have F3:=F2 (mixV p kk x la (j+1))
      rw [hset0,<-hms] at F3
      have hjx:j<la.length:=by omega
      have hgx:∀ h,la[j]'h=la.getD j 0:=fun h=>by simp [h]
      have hgmo:(mixV p kk x la j)[j]? =some (x.getD j 0):=by
       rw [<-hma]
       have:j<(mixV p kk x la j).length:=by omega
       simp [this]
      have hgxo:la[j]? =some (la.getD j 0):=by simp [hjx]
      have hjm:j<(mixV p kk x la j).length:=by omega
      have hgm:∀ h,(mixV p kk x la j)[j]'h=x.getD j 0:=fun h=>by rw [<-hma];simp [h]
      generalize hcv:x.getD j 0=cv at *
      generalize hxv:la.getD j 0=xv at *
      have hkx0:0<=kk*xv:=Int.mul_nonneg hkk0 hxj.1
      have hkx1:kk*xv<=10000:=by
       have:kk*xv<=100*100:=Int.mul_le_mul (by omega) (by omega) hxj.1 (by omega)
       omega
      have cm:=mq2 (w0:=w0) (a:=cv-kk*xv) (p:=p) ⟨by omega,by omega⟩
      generalize hmv:mixV p kk x la j=mv at *
      rw [List.map_set] at F3
      repeat'(with_reducible first|(refine sp (hK _ _ ?_);clear hK K)|refine vr [] fun K hK=>?_|(refine vd [] [112,113,9999] mixed fun K hK=>?_)|((first|refine aqa fun K' hK'=>?_|refine aqn fun K' hK'=>?_);simp[h18,h17,h16,h14,h13,h10,h9,h7,h0,h1,hil,lM,q1,q2,q3,q5,q6,hjn,hjx,hgx,hjm,hgm,hgmo,hgxo,hmlj,hl1,boxes,Blk.isArr,aqg.refl,cqq];repeat'(first|(apply hK';clear hK' K')|(refine Ret.use cm ?_;try simp[h18,h17,h16,h14,h13,h10,h9,h7,h0,h1,hil,lM,q1,q2,q3,q5,q6,hjn,hjx,hgx,hjm,hgm,hgmo,hgxo,hmlj,hl1,boxes,Blk.isArr,aqg.refl,cqq])|refine And.intro ?_ ?_|(clear hK' K';omega)))|(with_reducible refine aqb fun A B hA hB=>?_;simp[h18,h17,h16,h14,h13,h10,h9,h7,h0,h1,hil,lM,q1,q2,q3,q5,q6,hjn,hjx,hgx,hjm,hgm,hgmo,hgxo,hmlj,hl1,boxes,Blk.isArr,aqg.refl,cqq];repeat'(with_reducible first|(apply hA;clear hA hB A B)|(apply hB;clear hA hB A B)|refine And.intro ?_ ?_|intro hc))|refine sp ?_|fail)
      rw [hms] at F3
      exact ⟨⟨j+1,by omega,F3,by simp,by simp [h17],by simp [h16],by simp [h14],by simp [h13],by simp [h10],by simp [h9],by simp [h7],by simp [h0],by simp [h1]⟩,by simp;omega⟩
     ·obtain rfl:n=j:=by omega
      have hmn:mixV p kk x la n=subV p kk x la:=by
       rw [mixV,List.take_of_length_le (by omega),List.drop_of_length_le (by omega),List.append_nil]
      rw [hmn] at F
      repeat'(with_reducible first|(refine sp (hK _ _ ?_);clear hK K)|refine vr [] fun K hK=>?_|(refine aqa fun K' hK'=>?_;simp[h18,h17,h16,h14,h13,h10,h9,h7,h0,h1];repeat'(first|(apply hK';clear hK' K')|refine And.intro ?_ ?_|(clear hK' K';omega)))|(with_reducible refine aqb fun A B hA hB=>?_;simp[h18,h17,h16,h14,h13,h10,h9,h7,h0,h1];repeat'(with_reducible first|(apply hA;clear hA hB A B)|(apply hB;clear hA hB A B)|refine And.intro ?_ ?_|intro hc))|refine sp ?_|fail)
      exact ⟨⟨i+1,_,by omega,by omega,by simp [hLm],⟨by simp;omega,hatc _ _⟩,F,E3,by simp,by simp [h14],by simp [h13],by simp [h10],by simp [h9],by simp [h7],by simp [h0],by simp [h1]⟩,by simp;omega⟩
    ·obtain rfl:m=i:=by omega
     repeat'(with_reducible first|(refine sp (hK _ _ ?_);clear hK K)|refine vr [] fun K hK=>?_|(refine aqa fun K' hK'=>?_;simp[h16,h14,h13,h10,h9,h7,h0,h1];repeat'(first|(apply hK';clear hK' K')|refine And.intro ?_ ?_|(clear hK' K';omega)))|(with_reducible refine aqb fun A B hA hB=>?_;simp[h16,h14,h13,h10,h9,h7,h0,h1];repeat'(with_reducible first|(apply hA;clear hA hB A B)|(apply hB;clear hA hB A B)|refine And.intro ?_ ?_|intro hc))|refine sp ?_|fail)
     rw [<-hLm] at E
     exact ⟨⟨row+1,cnt+1,rs',L,by omega,hl1,F,E.fin hinv hlt,by simp,by simp,by simp [h7],by simp [h0],by simp [h1]⟩,by simp;omega⟩
 ·obtain rfl:n=row:=by omega
  repeat'(with_reducible first|(refine sp (hK _ _ ?_);clear hK K)|refine vr [] fun K hK=>?_|(refine aqa fun K' hK'=>?_;simp[h10,h9,h7,h0,h1];repeat'(first|(apply hK';clear hK' K')|fail))|(with_reducible refine aqb fun A B hA hB=>?_;simp[h10,h9,h7,h0,h1];repeat'(with_reducible first|(apply hA;clear hA hB A B)|(apply hB;clear hA hB A B)|refine And.intro ?_ ?_|intro hc))|apply aqc|refine sp ?_|fail)
  refine ⟨?_,F.sub⟩
  simp [resA,hR.rank hinv]
end Go.Am
namespace Go.Am
set_option linter.unusedVariables false
set_option linter.unusedSimpArgs false
open FS
theorem bqa {x:Int} {s:FS}:x∈s.l↔x∈s:=Iff.rfl
section
variable {s t:FS} {n:Nat}
theorem cqg (h:s⊆upTo n) (hn:n<=1000):aq3 s.l:=⟨s.up,fun x hx=>by
 have:=h x hx
 rw [FS.mem_upTo] at this
 omega⟩
theorem bqt (h:s⊆upTo n):s.l.length<=n:=by
 have:=card_le h
 rw [FS.card_upTo] at this
 exact this
theorem fs_union (hs:aq3 s.l) (ht:aq3 t.l):dqx s.l t.l=(s∪t).l:=cqu (aq3.union hs ht).up (s∪t).up fun x=>by
 rw [lqr hs ht,bqa,bqa,bqa,FS.mem_union]
theorem fs_unionR (hs:aq3 s.l) (ht:aq3 t.l):bql s.l t.l=(s∪t).l:=by rw [<-jq2 hs ht,fs_union hs ht]
theorem nql (hs:aq3 s.l) (ht:aq3 t.l):dq9 s.l t.l=(s \ t).l:=cqu (aq3.minus hs ht).up (s \ t).up fun x=>by
 rw [iqq hs ht,bqa,bqa,bqa,FS.mem_sdiff]
theorem fq2:s.l.filter (fun x=> !decide (x∈t.l))=(s \ t).l:=cqu (s.up.filter _) (s \ t).up fun x=>by
 have e:x∈(s \ t).l↔x∈s.l/\x∉t.l:=FS.mem_sdiff
 rw [List.mem_filter,e];simp
theorem fs_ofList {l:List Int} (h:l.Pairwise (· < ·)):(ofList l).l=l:=cqu (ofList l).up h fun x=>by rw [bqa,FS.mem_ofList]
theorem fs_upto:(upTo n).l=upto n:=rfl
theorem fs_empty:(∅ :FS).l=[]:=rfl
end
theorem nqh {l:List Int} (hl:l.Pairwise (· < ·)) {s:FS} (hs:∀ x,x∈s->0<=x/\x<l.length):(img l s).l=s.l.map (fun x=>l.getD x.toNat 0):=by
 refine cqu (img l s).up ?_ fun y=> ?_
 ·rw [List.pairwise_map]
  refine s.up.imp_of_mem fun {a b} ha hb hab=> ?_
  have h1:=hs a ha
  have h2:=hs b hb
  have e1:a.toNat<l.length:=by omega
  have e2:b.toNat<l.length:=by omega
  simp only [List.getD_eq_getElem?_getD,List.getElem?_eq_getElem e1,List.getElem?_eq_getElem e2,Option.getD_some]
  exact List.pairwise_iff_getElem.1 hl _ _ e1 e2 (by omega)
 ·rw [bqa,fqy,List.mem_map]
  constructor
  ·rintro ⟨x,hx,h0,e⟩;exact ⟨x,hx,by rw [List.getD_eq_getElem?_getD,e];rfl⟩
  ·rintro ⟨x,hx,e⟩
   have h1:=hs x hx
   have e1:x.toNat<l.length:=by omega
   rw [List.getD_eq_getElem?_getD,List.getElem?_eq_getElem e1,Option.getD_some] at e
   exact ⟨x,hx,h1.1,by rw [List.getElem?_eq_getElem e1,e]⟩
theorem cmpl_up (n:Int) (l:List Int):(cmpl n l).Pairwise (· < ·):=(dqh _).filter _
theorem mq5 {n:Int} {l:List Int} {x:Int} (hn:0<=n):x∈cmpl n l↔(0<=x/\x<n)/\x∉l:=by
 rw [cmpl,List.mem_filter,aqq];simp;omega
theorem cmpl_len {n:Nat} {l:List Int} (hl:l.Pairwise (· < ·)) (hb:∀ x∈l,0<=x/\x<n):(cmpl n l).length+l.length=n:=by
 have h:=card_sdiff (upTo n) (ofList l)
 have e1:(upTo n \ ofList l).l=cmpl n l:=cqu (upTo n \ ofList l).up (cmpl_up n l) fun x=>by
  rw [bqa,mq5 (by omega),FS.mem_sdiff,FS.mem_upTo,FS.mem_ofList]
 have e2:(upTo n∩ofList l)=ofList l:=FS.ext fun x=>by
  have:=hb x
  rw [FS.mem_inter,FS.mem_upTo,FS.mem_ofList]
  exact ⟨fun h=>h.2,fun h=>⟨this h,h⟩⟩
 rw [e2] at h
 simp only [FS.card,e1,fs_ofList hl] at h
 rw [h];exact card_upTo n
theorem nqg {l:List Int} {n:Nat} (hl:∀ x∈l,0<=x/\x<n) (s:FS):img l s⊆upTo n:=fun y hy=>by
 obtain ⟨x,_,_,e⟩:=fqy.1 hy
 rw [FS.mem_upTo];exact hl y (List.mem_of_getElem? e)
theorem eqv {s E:FS} (h:s⊆E):s∩E=s:=FS.ext fun x=>by
 have:=h x
 rw [FS.mem_inter];exact ⟨fun h=>h.1,fun h=>⟨h,this h⟩⟩
end Go.Am
namespace Go.Am
open Go Go.Proofs
set_option linter.unusedVariables false
set_option linter.unusedSimpArgs false
variable {w0:World}
attribute [local irreducible] AWP aqo
attribute [local congr] aqp
theorem deep_stable:∀ m k,bqm m k<=k->bqm m (k+1)=bqm m k:=by
 refine Mtd.ind fun t n a b l xs ih k h=> ?_
 have e1:∀ k,bqm (.mk t n a b l xs) k=(if 0<k/\5<=t/\t<=9 then bqb xs (k-1) else 0)+1:=fun k=>by rw [bqm]
 rw [e1] at h
 rw [e1,e1]
 by_cases g:5<=t/\t<=9
 ·have hk:0<k:=by
   cases k with
   | zero=>omega
   | succ k=>omega
  rw [if_pos ⟨hk,g⟩] at h
  rw [if_pos ⟨by omega,g⟩,if_pos ⟨hk,g⟩]
  have:∀ ys:List Mtd,(∀ y∈ys,y∈xs)->bqb ys (k-1)<=k-1->bqb ys k=bqb ys (k-1):=by
   intro ys
   induction ys with
   | nil=>intro _ _;simp [bqb]
   | cons y ys ih2=>
    intro hy hd
    rw [bqb] at hd
    have h1:=ih y (hy y (by simp)) (k-1) (by omega)
    rw [show k-1+1=k by omega] at h1
    rw [bqb,bqb,h1,ih2 (fun z hz=>hy z (by simp [hz])) (by omega)]
  rw [show k+1-1=k by omega,this xs (fun y h=>h) (by omega)]
 ·rw [if_neg (fun k=>g k.2),if_neg (fun k=>g k.2)]
structure OkT (m:Mtd):Prop where
 nice:Nice m
 may:mayT m=true
 deep:bqm m 4<=4
theorem OkT.of {m:Mtd} (h:Nice m) (hc:eqc m=0):OkT m:=by
 unfold eqc at hc
 split at hc
 ·omega
 ·split at hc
  ·refine ⟨h,by assumption,?_⟩
   have:=iqc m 4
   omega
  ·omega
theorem OkT.check {m:Mtd} (h:OkT m):eqc m=0:=by
 have:=h.deep
 rw [eqc,if_neg (by omega),if_pos h.may]
section
variable {t n a b:Int} {l:List (List Int)} {xs:List Mtd}
theorem OkT.n0 (h:OkT (.mk t n a b l xs)):0<=n/\n<=64/\0<=a/\a<=64:=by
 have:=h.may
 rw [mayT] at this
 simp only [Bool.and_eq_true,decide_eq_true_eq] at this
 omega
theorem OkT.nest (h:OkT (.mk t n a b l xs)) (g:5<=t/\t<=9):b=0/\(t=7\/a=0)/\1<=xs.length/\xs.length<=8/\(t=9\/xs.length<=1)/\(∀ x∈xs,OkT x)/\
  (if 7<=t then l=[]/\n=sumN xs else ∃ T:FS,l=[T.l]/\(∀ x,x∈T->0<=x/\x<sumN xs)/\(if t=5 then n=T.l.length else n=sumN xs-T.l.length)):=by
 have hm:=h.may
 rw [mayT,if_pos g] at hm
 simp only [Bool.and_eq_true,Bool.or_eq_true,decide_eq_true_eq,hq5,List.all_eq_true] at hm
 obtain ⟨_,⟨⟨⟨⟨⟨h1,h2⟩,h3⟩,h4⟩,h5⟩,h6⟩,h7⟩:=hm
 refine ⟨h1,h2,h3,h4,h5,fun x hx=> ?_,?_⟩
 ·obtain ⟨_,_,_,_,hi⟩:=h.nice
  refine ⟨hi x hx,h6 x hx,?_⟩
  have hd:=h.deep
  rw [bqm,if_pos ⟨by omega,g⟩] at hd
  have hd':bqb xs 3+1<=4:=hd
  have:=deepRs_get hx 3
  have e:bqm x 4=bqm x 3:=deep_stable x 3 (by omega)
  omega
 ·by_cases k:7<=t
  ·rw [if_pos k] at h7 ⊢
   simp only [Bool.and_eq_true,decide_eq_true_eq] at h7
   exact ⟨List.length_eq_zero_iff.1 h7.1,h7.2⟩
  ·rw [if_neg k] at h7 ⊢
   simp only [Bool.and_eq_true,decide_eq_true_eq] at h7
   obtain ⟨⟨h8,h9⟩,h10⟩:=h7
   match l,h8 with
   | [y],_=>
    have e0:([y]:List (List Int)).getD 0 []=y:=rfl
    rw [e0] at h9 h10
    simp only [ptsB,Bool.and_eq_true,aqs,List.all_eq_true,decide_eq_true_eq] at h9
    refine ⟨⟨y,h9.1.up⟩,rfl,fun x hx=>⟨(h9.1.ok x hx).1,h9.2 x hx⟩,?_⟩
    by_cases t5:t=5
    ·rw [if_pos t5] at h10 ⊢;simpa using h10
    ·rw [if_neg t5] at h10 ⊢;simpa using h10
theorem OkT.plain (h:OkT (.mk t n a b l xs)) (g:¬(5<=t/\t<=9)):bqz t n a b l xs.length=true:=by
 have hm:=h.may
 rw [mayT,if_neg g] at hm
 simp only [Bool.and_eq_true] at hm
 exact hm.2
end
theorem OkT.ok:∀ {m:Mtd},OkT m->OkM m:=by
 intro m
 refine Mtd.ind (P:=fun m=>OkT m->OkM m) (fun t n a b l xs ih h=> ?_) m
 by_cases g:5<=t/\t<=9
 ·obtain ⟨_,_,_,_,_,hx,_⟩:=h.nest g
  exact ⟨fun e=>by omega,fun e=>by omega,fun x hxm=>(bq1 (hx x hxm).may).1,fun x hxm=>ih x hxm (hx x hxm)⟩
 ·have hp:=h.plain g
  unfold bqz at hp
  simp only [Bool.and_eq_true,decide_eq_true_eq] at hp
  have hxs:xs=[]:=List.length_eq_zero_iff.1 hp.1.1
  refine ⟨fun e=> ?_,fun e=> ?_,by simp [hxs],by simp [hxs]⟩
  ·subst e
   have:=hp.2
   simp only [Bool.and_eq_true,decide_eq_true_eq,List.all_eq_true,numB,show ¬(1:Int)=0 by omega,if_false,if_true] at this
   intro r hr
   obtain ⟨h1,h2⟩:=this.1.1 r hr
   match r,h2 with
   | [u,v],_=>
    have hu:=h1 u (by simp)
    have hv:=h1 v (by simp)
    simp only [List.getD_cons_zero,List.getD_cons_succ]
    omega
  ·subst e
   have hm:mayE b a l=true:=by
    have:=hp.2
    simp at this
    exact this.2
   have hb:b<=100:=by obtain ⟨_,_,_,hb,_⟩:=h.nice;exact hb
   simp only [mayE,Bool.and_eq_true] at hm
   exact inv_ex hb hm.1.1.1.1
theorem OkT.rk {m:Mtd} (h:OkT m):Rk (rkM m):=rkM_rk m h.ok
def imgL (t:Int) (l:List (List Int)) (xs:List Mtd):List Int:=if t=6 then cmpl (nH xs) (l.getD 0 []) else l.getD 0 []
theorem nH_sum {xs:List Mtd} (h1:1<=xs.length) (h2:xs.length<=1):∃ x,xs=[x]:=by
 match xs,h1,h2 with
 | [x],_,_=>exact ⟨x,rfl⟩
theorem hqi (x:Mtd):sumN [x]=x.n:=by simp [sumN]
section
variable {t n a b:Int} {l:List (List Int)} {xs:List Mtd}
theorem OkT.five (h:OkT (.mk t n a b l xs)) (g:t=5\/t=6):∃ (x:Mtd) (T:FS),xs=[x]/\l=[T.l]/\OkT x/\T⊆FS.upTo x.n.toNat/\0<=x.n/\x.n<=64/\
  (imgL t l xs).Pairwise (· < ·)/\((imgL t l xs).length:Int)=n/\(∀ y∈imgL t l xs,0<=y/\y<x.n):=by
 obtain ⟨_,_,h3,_,h5,h6,h7⟩:=h.nest (by omega)
 obtain ⟨x,rfl⟩:=nH_sum h3 (by omega)
 rw [if_neg (by omega)] at h7
 obtain ⟨T,rfl,hT,hn⟩:=h7
 rw [hqi] at hT hn
 have hx:=h6 x (by simp)
 have hxn:=bq1 hx.may
 have e0:([T.l]:List (List Int)).getD 0 []=T.l:=rfl
 refine ⟨x,T,rfl,rfl,hx,fun y hy=> ?_,hxn.1,hxn.2,?_⟩
 ·have:=hT y hy;rw [FS.mem_upTo];omega
 ·rw [imgL,e0]
  by_cases k:t=6
  ·rw [if_pos k]
   have e1:nH [x]=x.n:=rfl
   rw [e1]
   obtain ⟨m,hm⟩:=Int.eq_ofNat_of_zero_le hxn.1
   have:=cmpl_len (n:=m) (l:=T.l) T.up (fun y hy=>by have:=hT y hy;omega)
   rw [if_neg (by omega)] at hn
   rw [hm] at hn ⊢
   exact ⟨cmpl_up _ _,by omega,fun y hy=>by have:=(mq5 (by omega)).1 hy;omega⟩
  ·rw [if_neg k]
   rw [if_pos (by omega)] at hn
   exact ⟨T.up,hn.symm,fun y hy=>hT y hy⟩
end
set_option maxRecDepth 20000 in
set_option maxHeartbeats 2000000 in
theorem Image9_ret {t n a b:Int} {l:List (List Int)} {xs:List Mtd} (h:OkT (.mk t n a b l xs)) (s:FS) (hs:s⊆FS.upTo n.toNat):
  Ret Tryz.prog w0 114 [mtA (.mk t n a b l xs),ints s.l] (.tup [ints (if t=5\/t=6 then (img (imgL t l xs) s).l else []),B (decide (t=5\/t=6))]):=by
 have c1:=eqz (w0:=w0) h.nice
 rw [h.check] at c1
 have hn:=h.n0
 have hset:=cqg hs (by omega)
 have hsl:=bqt hs
 have c2:=jqp (w0:=w0) (l:=s.l) (n:=n) (by omega)
 have hp:ptsB s.l n=true:=by
  simp only [ptsB,Bool.and_eq_true,List.all_eq_true,decide_eq_true_eq]
  exact ⟨aqs.2 hset,fun x hx=>by have:=FS.mem_upTo.1 (hs x hx);omega⟩
 rw [hp] at c2
 intro H
 by_cases g:t=5\/t=6
 rotate_left
 ·have g5:¬t=5:=fun k=>g (.inl k)
  have g6:¬t=6:=fun k=>g (.inr k)
  rw [if_neg g,decide_eq_false g]
  simp only [mtA,mtC] at c1 ⊢
  refine aqf Tryz.func114 rfl Tryz.ntmps114 (ts:=[4,5]) rfl (by simp) (by kernel_rfl) ?_
  repeat'(with_reducible first|(refine aqd (hK _ _ ?_);clear hK K)|refine vr [] fun K hK=>?_|((first|refine aqa fun K' hK'=>?_|refine aqb fun K' B hK' hB=>?_|(apply aqk;refine aqe rfl fun K' hK'=>?_));simp[g5,g6];repeat'(first|((first|refine hK' ?_|refine hB ?_);clear hK' hB K' B)|(apply hK';clear hK' K')|refine Ret.use c1 ?_|intro hg|fail))|apply aqc|refine sp ?_|fail)
  exact ⟨by simp [ints],aqh (by assumption)⟩
 rw [if_pos g,decide_eq_true g]
 obtain ⟨x,T,rfl,rfl,hx,hT,x0,x64,i1,i2,i3⟩:=h.five g
 have hTs:=cqg hT (by omega)
 have hTl:=bqt hT
 have himg:=nqh i1 (s:=s) fun y hy=>by have:=FS.mem_upTo.1 (hs y hy);omega
 rw [himg]
 obtain ⟨L,hL⟩:∃ L,imgL t [T.l] [x]=L:=⟨_,rfl⟩
 rw [hL] at i1 i2 i3 ⊢
 simp only [mtA,mtC] at c1 ⊢
 have hone:mtCs [x]=[I x.tag,I x.n,I x.a,I x.b,rows x.list,.sl (mtCs x.inner) x.inner.length]:=by cases x;rfl
 rw [hone] at c1 ⊢
 simp only [rows,ints,List.map_cons,List.map_nil,List.length_singleton] at c1
 simp only [ints] at c2
 have hin:∀ y,y∈s->0<=y/\y<L.length:=fun y hy=>by have:=FS.mem_upTo.1 (hs y hy);omega
 have hsl':s.l.length<=64:=by omega
 have hLl:L.length<=64:=by omega
 rcases g with g5 | g6
 have hLT:L=T.l:=by rw [<-hL,imgL,if_neg (by omega)];rfl
 have f6:(t=6)=False:=eq_false (by omega)
 have f5:(t=5)=True:=eq_true g5
 subst hLT
 refine aqf Tryz.func114 rfl Tryz.ntmps114 (ts:=[4,5]) rfl (by simp) (by kernel_rfl) ?_
 repeat'(with_reducible first|(refine aqd (hK _ _ ?_);clear hK K)|refine vr [44] fun K hK=>?_|((first|refine aqa fun K' hK'=>?_|refine aqb fun K' B hK' hB=>?_|(apply aqk;refine aqe rfl fun K' hK'=>?_));simp[f5,f6,rows,ints];repeat'(first|((first|refine hK' ?_|refine hB ?_);clear hK' hB K' B)|(apply hK';clear hK' K')|refine Ret.use c1 ?_|refine Ret.use c2 ?_|intro hg|fail))|refine sp ?_|fail)
 rotate_left
 have f6:(t=6)=True:=eq_true g6
 have f5:(t=5)=False:=eq_false (by omega)
 have c3:Ret Tryz.prog w0 35 [I x.n] (ints (upto x.n.toNat)):=by
  have:=jqu (w0:=w0) (n:=x.n)
  rwa [allL,if_pos (by omega)] at this
 have c4:Ret Tryz.prog w0 34 [ints (upto x.n.toNat),ints T.l] (ints L):=by
  have:=gqb (w0:=w0) (a:=upto x.n.toNat) (b:=T.l) (by simp;omega) (by omega)
  rw [if_pos (by rw [Bool.and_eq_true];exact ⟨aqs.2 (cqd (by omega)),aqs.2 hTs⟩)] at this
  rw [<-hL,imgL,if_pos g6]
  exact this
 obtain ⟨U,hU⟩:∃ U,upto x.n.toNat=U:=⟨_,rfl⟩
 rw [hU] at c3 c4
 clear hU
 simp only [ints] at c3 c4
 refine aqf Tryz.func114 rfl Tryz.ntmps114 (ts:=[4,5]) rfl (by simp) (by kernel_rfl) ?_
 repeat'(with_reducible first|(refine aqd (hK _ _ ?_);clear hK K)|refine vr [44] fun K hK=>?_|((first|refine aqa fun K' hK'=>?_|refine aqb fun K' B hK' hB=>?_|(apply aqk;refine aqe rfl fun K' hK'=>?_));simp[f5,f6,rows,ints];repeat'(first|((first|refine hK' ?_|refine hB ?_);clear hK' hB K' B)|(apply hK';clear hK' K')|refine Ret.use c1 ?_|refine Ret.use c2 ?_|refine Ret.use c3 ?_|refine Ret.use c4 ?_|intro hg|fail))|refine sp ?_|fail)
 all_goals
  rename_i bx hb r
  have hbr:r≠bx:=by rintro rfl;simp at hg
  have hr0:H r=none:=by rw [if_neg hbr] at hg;exact hg
  clear hg c1 c2
  obtain ⟨H1,hH1⟩:∃ H1,H1=upd H bx (some (.box [I t,I n,I a,I b,.sl [.sl (T.l.map I) T.l.length] 1,.sl [I x.tag,I x.n,I x.a,I x.b,.sl (x.list.map ints) x.list.length,.sl (mtCs x.inner) x.inner.length] 1])):=⟨_,rfl⟩
  have hsub:Sub H H1:=by rw [hH1];exact aqh hb
  have hr1:H1 r=none:=by rw [hH1,aqm _ _ _ hbr];exact hr0
  rw [<-hH1]
  clear hH1 hb hr0
  refine aqi (fun env h=>∃ (q:Nat) (o:List Int),q<=s.l.length/\o=(s.l.take q).map (fun y=>(imgL t [T.l] [x]).getD y.toNat 0)/\h=upd H1 r (some (.arr 1 3 (o.map I) o.length))/\env 8=I q/\env 7= .ref r 0 o.length o.length/\env 6=ints (imgL t [T.l] [x])/\env 1=ints s.l) (fun env _=>s.l.length-natA (env 8)) ?_ ?_
  ·exact ⟨0,[],by omega,by simp,by simp,by simp,by simp,by simp [hL,ints],by simp [ints]⟩
  rintro env h ⟨q,o,hq,ho,rfl,h8,h7,h6,h1⟩
  have hnat:natA (env 8)=q:=by simp [h8]
  rw [hnat];clear hnat
  have hol:o.length=q:=by rw [ho,List.length_map,List.length_take];omega
  rw [hL] at h6
  by_cases g1:q<s.l.length
  ·obtain ⟨y,hy⟩:∃ y,s.l[q]=y:=⟨_,rfl⟩
   have hym:=hin y (by rw [<-bqa,<-hy];exact List.getElem_mem _)
   have htk:s.l.take (q+1)=s.l.take q++[y]:=by rw [List.take_succ_eq_append_getElem g1,hy]
   have hgy:∀ h,s.l[q]'h=y:=fun _=>hy
   have hgo:s.l[q]? =some y:=by simp [g1,hy]
   have hyt:y.toNat<(imgL t [T.l] [x]).length:=by rw [hL];omega
   obtain ⟨z,hz⟩:∃ z,(imgL t [T.l] [x])[y.toNat]=z:=⟨_,rfl⟩
   have hzd:(imgL t [T.l] [x]).getD y.toNat 0=z:=by simp [hyt,hz]
   have hzo:(imgL t [T.l] [x])[y.toNat]? =some z:=by simp [hyt,hz]
   have hzg:∀ h,(imgL t [T.l] [x])[y.toNat]'h=z:=fun _=>hz
   have hnew:o++[z]=(s.l.take (q+1)).map (fun y=>(imgL t [T.l] [x]).getD y.toNat 0):=by rw [htk,List.map_append,<-ho,List.map_singleton,hzd]
   rw [hL] at hyt hzo hzg
   have hlr:upd H1 r (some (.arr 1 3 (o.map I) o.length)) r=some (.arr 1 3 (o.map I) o.length):=aqj _ _ _
   repeat'(with_reducible first|(refine aqd (hK _ _ ?_);clear hK K)|refine vr [] fun K hK=>?_|((first|refine aqa fun K' hK'=>?_|refine aqb fun K' B hK' hB=>?_);simp[h8,h7,h6,h1,ints,g1,hgy,hgo,hym.1,hyt,hzo,hzg];repeat'(first|((first|refine hK' ?_|refine hB ?_);clear hK' hB K' B)|(apply hK';clear hK' K')|refine And.intro ?_ ?_|(clear hK' K';omega)))|refine sp ?_|fail)
   refine ⟨⟨q+1,o++[z],by omega,hnew,?_,by simp,?_,by simp [h6,hL,ints],by simp [h1,ints]⟩,by simp;omega⟩
   ·simp [aqx]
   ·simp
  ·rw [List.take_of_length_le (by omega)] at ho
   refine dqk 7 h7 hr1 fun env' he he2=> ?_
   rw [bqw] at he
   have g8:env' 8=I q:=by rw [he2 _ (by decide),h8]
   have g1':env' 1=ints s.l:=by rw [he2 _ (by decide),h1]
   repeat'(with_reducible first|(refine aqd (hK _ _ ?_);clear hK K)|refine vr [] fun K hK=>?_|((first|refine aqa fun K' hK'=>?_|refine aqb fun K' B hK' hB=>?_);simp[g8,g1',he,ints,g1];repeat'(first|((first|refine hK' ?_|refine hB ?_);clear hK' hB K' B)|(apply hK';clear hK' K')|fail))|apply aqc|refine sp ?_|fail)
   rw [hL] at ho
   exact ⟨by simp [ho],hsub⟩
end Go.Am
namespace Go.Am
set_option linter.unusedVariables false
set_option linter.unusedSimpArgs false
open FS
variable {r:FS->Nat}
theorem img_card {l:List Int} (hl:l.Pairwise (· < ·)) {s:FS} (hs:∀ x,x∈s->0<=x/\x<l.length):(img l s).card=s.card:=by
 show (img l s).l.length=s.l.length
 rw [nqh hl hs,List.length_map]
theorem ind_con (h:Rk r) {A T B:FS} (hB:Rk.Ind r B) (hBT:B⊆T) (hc:∀ x,x∈T->r (insert x B)=r B) (hd:∀ x,x∈A->x∉T):r (A∪T)-r T=A.card↔Rk.Ind r (A∪B):=by
 have e1:r T=r B:=h.cl_of hBT hc
 have e2:r (A∪T)=r (A∪B):=by
  refine h.cl_of (fun x hx=> ?_) fun x hx=> ?_
  ·have:=hBT x;grind
  ·by_cases k:x∈A
   ·rw [cqj (by grind)]
   ·exact h.cl_mono (a:=B) (fun y hy=>by grind) (hc x (by grind))
 have e3:(A∪B).card=A.card+B.card:=card_disj fun x hx k=>hd x hx (hBT x k)
 have e4:=h.mono (a:=B) (b:=A∪B) fun x hx=>by grind
 unfold Rk.Ind at hB ⊢
 rw [e1,e2,e3,hB]
 omega
theorem ind_dual (h:Rk r) {s E:FS} (hs:s⊆E):(s∩E).card+r (E \ s)-r E=s.card↔r (E \ s)=r E:=by
 rw [eqv hs]
 have h1:=h.mono (a:=E \ s) (b:=E) fun x hx=>by grind
 have h2:=h.le_union (E \ s) s
 rw [show (E \ s)∪s=E from FS.ext fun x=>by have:=hs x;grind] at h2
 omega
theorem ind_trunc (h:Rk r) {s:FS} {k:Nat}:min (r s) k=s.card↔s.card<=k/\Rk.Ind r s:=by
 have:=h.le_card s
 unfold Rk.Ind
 omega
def allI:List Mtd->Int->FS->Prop
 | [],_,_=>True
 | x::xs,f,s=>Rk.Ind (rkM x) (shf f x.n s)/\allI xs (f+x.n) s
def cS:List Mtd->Int->FS->Nat
 | [],_,_=>0
 | x::xs,f,s=>(shf f x.n s).card+cS xs (f+x.n) s
def nS (xs:List Mtd):Int:=(xs.map Mtd.n).sum
theorem rkS_le {xs:List Mtd} (h:∀ x∈xs,Rk (rkM x)):∀ f s,rkS xs f s<=cS xs f s/\(rkS xs f s=cS xs f s↔allI xs f s):=by
 induction xs with
 | nil=>intro f s;simp [rkS,cS,allI]
 | cons x xs ih=>
  intro f s
  have h1:=(h x (by simp)).le_card (shf f x.n s)
  obtain ⟨h2,h3⟩:=ih (fun y hy=>h y (by simp [hy])) (f+x.n) s
  rw [rkS,cS,allI]
  refine ⟨by omega,?_⟩
  rw [<-h3]
  unfold Rk.Ind
  omega
theorem shf_card (f n:Int) (s:FS):(shf f n s).card=(s.filter fun x=>decide (f<=x/\x<f+n)).card:=by
 rw [FS.card_ofNodup (l:=(s.filter fun x=>decide (f<=x/\x<f+n)).l.map (· - f)) (s:=shf f n s) ?_ fun x=> ?_]
 ·rw [List.length_map];rfl
 ·exact eqt (FS.nodup _) fun x _ y _ e=>by omega
 ·rw [dqi,List.mem_map]
  constructor
  ·rintro ⟨h1,h2,h3⟩
   refine ⟨x+f,?_,by omega⟩
   rw [bqa,FS.mem_filter]
   exact ⟨h3,by simp;omega⟩
  ·rintro ⟨y,hy,rfl⟩
   rw [bqa,FS.mem_filter] at hy
   have:=hy.2
   simp at this
   exact ⟨by omega,by omega,by rw [show y-f+f=y by omega];exact hy.1⟩
theorem cS_card (xs:List Mtd):(∀ x∈xs,0<=x.n)->∀ f s,cS xs f s=(s.filter fun x=>decide (f<=x/\x<f+nS xs)).card:=by
 induction xs with
 | nil=>
  intro _ f s
  rw [cS,show s.filter (fun x=>decide (f<=x/\x<f+nS []))= ∅ from FS.ext fun x=>by rw [FS.mem_filter];simp [nS]]
  simp
 | cons x xs ih=>
  intro hn f s
  have hx:=hn x (by simp)
  have hxs:0<=nS xs:=by
   have:∀ ys:List Mtd,(∀ y∈ys,0<=y.n)->0<=nS ys:=by
    intro ys
    induction ys with
    | nil=>intro _;simp [nS]
    | cons y ys ih=>intro h;have:=h y (by simp);have:=ih fun z hz=>h z (by simp [hz]);simp only [nS,List.map_cons,List.sum_cons] at *;omega
   exact this xs fun y hy=>hn y (by simp [hy])
  have e:nS (x::xs)=x.n+nS xs:=by simp [nS]
  rw [cS,ih (fun y hy=>hn y (by simp [hy])),shf_card,e,<-FS.card_disj]
  ·congr 1
   refine FS.ext fun y=> ?_
   rw [FS.mem_union,FS.mem_filter,FS.mem_filter,FS.mem_filter]
   simp only [decide_eq_true_eq]
   constructor
   ·rintro (⟨h,h1⟩ | ⟨h,h1⟩)
    ·exact ⟨h,by omega⟩
    ·exact ⟨h,by omega⟩
   ·rintro ⟨h,h1⟩
    by_cases k:y<f+x.n
    ·exact .inl ⟨h,by omega⟩
    ·exact .inr ⟨h,by omega⟩
  ·intro y h1 h2
   rw [FS.mem_filter] at h1 h2
   have:=h1.2;have:=h2.2
   simp at *
   omega
theorem ind_sum {xs:List Mtd} (h:∀ x∈xs,Rk (rkM x)) (hn:∀ x∈xs,0<=x.n) {s:FS} (hs:∀ x,x∈s->0<=x/\x<nS xs):rkS xs 0 s=s.card↔allI xs 0 s:=by
 have:=rkS_le h 0 s
 rw [<-this.2,cS_card xs hn,show s.filter (fun x=>decide (0<=x/\x<0+nS xs))=s from FS.ext fun x=>by
  have:=hs x
  rw [FS.mem_filter];simp only [decide_eq_true_eq]
  exact ⟨fun h=>h.1,fun h=>⟨h,by have:=this h;omega⟩⟩]
def capI (cls:List Int):List Int->Int->FS->Prop
 | [],_,_=>True
 | k::ks,c,s=>(aq2 cls c s).card<=k.toNat/\capI cls ks (c+1) s
theorem ind_part (cls:List Int) (ks:List Int):∀ (c:Int) (s:FS),(∀ x,x∈s->∃ d:Int,(0<=x/\cls[x.toNat]? =some d)/\c<=d/\d<c+ks.length)->paR cls ks c s<=s.card/\(paR cls ks c s=s.card↔capI cls ks c s):=by
 induction ks with
 | nil=>
  intro c s hs
  have:s= ∅ :=FS.ext fun x=>by
   constructor
   ·intro hx;obtain ⟨d,_,h1,h2⟩:=hs x hx;simp at h2;omega
   ·intro hx;simp at hx
  subst this
  simp [paR,capI]
 | cons k ks ih=>
  intro c s hs
  have hsp:s.card=(aq2 cls c s).card+(s \ aq2 cls c s).card:=by
   rw [<-FS.card_disj]
   ·congr 1
    exact FS.ext fun x=>by simp only [aq2,FS.mem_union,FS.mem_filter,FS.mem_sdiff];grind
   ·intro x h1 h2;grind
  have hcl:∀ x,x∈s \ aq2 cls c s->∃ d:Int,(0<=x/\cls[x.toNat]? =some d)/\c+1<=d/\d<c+1+ks.length:=fun x hx=>by
   rw [FS.mem_sdiff] at hx
   obtain ⟨d,h1,h2,h3⟩:=hs x hx.1
   have:d≠c:=fun e=>by
    subst e
    exact hx.2 (by rw [aq2,FS.mem_filter];exact ⟨hx.1,by simpa using h1⟩)
   rw [List.length_cons] at h3
   exact ⟨d,h1,by omega,by omega⟩
  have hout:∀ (ks:List Int) (c':Int),c<c'->paR cls ks c' s=paR cls ks c' (s \ aq2 cls c s)/\(capI cls ks c' s↔capI cls ks c' (s \ aq2 cls c s)):=by
   intro ks
   induction ks with
   | nil=>intro c' _;simp [paR,capI]
   | cons k ks ih=>
    intro c' hc
    have e:aq2 cls c' s=aq2 cls c' (s \ aq2 cls c s):=FS.ext fun x=>by
     simp only [aq2,FS.mem_filter,FS.mem_sdiff,decide_eq_true_eq]
     constructor
     ·rintro ⟨h1,h2⟩
      refine ⟨⟨h1,fun h3=> ?_⟩,h2⟩
      have:=h3.2.2.symm.trans h2.2
      injection this;omega
     ·rintro ⟨h1,h2⟩;exact ⟨h1.1,h2⟩
    obtain ⟨i1,i2⟩:=ih (c'+1) (by omega)
    rw [paR,paR,capI,capI,<-e,i1,i2]
    exact ⟨rfl,Iff.rfl⟩
  obtain ⟨o1,o2⟩:=hout ks (c+1) (by omega)
  obtain ⟨i1,i2⟩:=ih (c+1) _ hcl
  rw [paR,capI,o1,o2,<-i2,hsp]
  omega
end Go.Am
namespace Go.Am
set_option linter.unusedVariables false
set_option linter.unusedSimpArgs false
open FS
def CvU (adj:List (List Int)) (s:List Int) (U L R:FS):Prop:=∀ x,x∈s->x∉L->∀ v,v∈adj.getD x.toNat []->v∉U->v∈R
def HallC (adj:List (List Int)) (s:List Int) (U:FS):Prop:=∀ L R,CvU adj s U L R->s.length<=L.card+R.card
section
variable {adj:List (List Int)}
theorem hall_cons {x v:Int} {s:List Int} {U:FS} (hx:x∉s) (hv:v∈adj.getD x.toNat []) (hU:v∉U) (h:HallC adj s (insert v U)):HallC adj (x::s) U:=fun L R hc=>by
 have h1:=h (L.erase x) (R.erase v) fun y hy hl w hw hwU=>by
  have hne:y≠x:=fun e=>hx (e▸hy)
  have:=hc y (by simp [hy]) (fun k=>hl (by rw [FS.mem_erase];exact ⟨k,hne⟩)) w hw (fun k=>hwU (by grind))
  rw [FS.mem_erase];exact ⟨this,fun e=>hwU (by grind)⟩
 rw [List.length_cons]
 have le1:(L.erase x).card<=L.card:=FS.card_le fun y hy=>(FS.mem_erase.1 hy).1
 have le2:(R.erase v).card<=R.card:=FS.card_le fun y hy=>(FS.mem_erase.1 hy).1
 by_cases k:x∈L
 ·have:=FS.card_erase k;omega
 ·have:=FS.card_erase (hc x (by simp) k v hv hU);omega
theorem hall_one {x:Int} {s:List Int} {U:FS}:∀ A:FS,(∀ L R,(x∈L\/A⊆R)->CvU adj s U L R->s.length+1<=L.card+R.card)->
  ∃ v,v∈A/\∀ L R,v∈R->CvU adj s U L R->s.length+1<=L.card+R.card:=by
 intro A
 induction A using FS.ind with
 | h0=>
  intro h
  have h1:=h (ofList s) ∅ (.inr fun y hy=>by simp at hy) fun y hy hl=>absurd (FS.mem_ofList.2 hy) hl
  have h2:(ofList s).card<=s.length:=bq3 _ _ (FS.nodup _) fun y hy=>FS.mem_ofList.1 hy
  simp at h1
  omega
 | h1 v A hv ih=>
  intro h
  by_cases k:∀ L R,v∈R->CvU adj s U L R->s.length+1<=L.card+R.card
  ·exact ⟨v,by grind,k⟩
  ·have h2:∀ L R,(x∈L\/A⊆R)->CvU adj s U L R->s.length+1<=L.card+R.card:=fun L1 R1 h1 c1=>by
    rcases Nat.lt_or_ge (L1.card+R1.card) (s.length+1) with hlt | hge
    ·exfalso
     apply k
     intro L2 R2 h2 c2
     rcases Nat.lt_or_ge (L2.card+R2.card) (s.length+1) with hlt2 | hge2
     ·exfalso
      have x1:x∉L1:=fun hx=>by have:=h L1 R1 (.inl hx) c1;omega
      have x2:x∉L2:=fun hx=>by have:=h L2 R2 (.inl hx) c2;omega
      have hA:A⊆R1:=h1.resolve_left x1
      have u1:=FS.card_union L1 L2
      have u2:=FS.card_union R1 R2
      have b1:=h (L1∩L2) (R1∪R2) (.inr fun y hy=>by
       rcases FS.mem_insert.1 hy with rfl | hy
       ·grind
       ·have:=hA y hy;grind) fun y hy hl w hw hU=>by
        by_cases e:y∈L1
        ·have:y∉L2:=by grind
         have:=c2 y hy this w hw hU;grind
        ·have:=c1 y hy e w hw hU;grind
      have b2:=h (insert x (L1∪L2)) (R1∩R2) (.inl (by grind)) fun y hy hl w hw hU=>by
       have a1:=c1 y hy (by grind) w hw hU
       have a2:=c2 y hy (by grind) w hw hU
       grind
      have:=(FS.card_insert_le x (L1∪L2)).2
      omega
     ·exact hge2
    ·exact hge
   obtain ⟨w,hw,hw2⟩:=ih h2
   exact ⟨w,by grind,hw2⟩
theorem hall_next {x:Int} {s:List Int} {U:FS} (h:HallC adj (x::s) U):∃ v,v∈adj.getD x.toNat []/\v∉U/\HallC adj s (insert v U):=by
 obtain ⟨v,hv,h2⟩:=hall_one (adj:=adj) (x:=x) (s:=s) (U:=U) (ofList (adj.getD x.toNat []) \ U) fun L R hx hc=>by
  refine h L R fun y hy hl w hw hU=> ?_
  rcases List.mem_cons.1 hy with rfl | hy
  ·rcases hx with hx | hx
   ·exact absurd hx hl
   ·exact hx w (by rw [FS.mem_sdiff,FS.mem_ofList];exact ⟨hw,hU⟩)
  ·exact hc y hy hl w hw hU
 rw [FS.mem_sdiff,FS.mem_ofList] at hv
 refine ⟨v,hv.1,hv.2,fun L R hc=> ?_⟩
 have:=h2 L (insert v R) (by grind) fun y hy hl w hw hU=>by
  by_cases e:w=v
  ·grind
  ·have:=hc y hy hl w hw (by grind);grind
 have:=(FS.card_insert_le v R).2
 omega
def matB (adj:List (List Int)):List Int->List Int->Bool
 | [],_=>true
 | x::s,u=>((adj.getD x.toNat []).filter fun v=> !decide (v∈u)).any fun v=>matB adj s (bql u [v])
theorem matB_iff (ha:∀ x:Int,aq3 (adj.getD x.toNat [])):∀ (s u:List Int),s.Nodup->aq3 u->(matB adj s u=true↔HallC adj s (ofList u)):=by
 intro s
 induction s with
 | nil=>intro u _ _;simp [matB,HallC]
 | cons x s ih=>
  intro u hs hu
  obtain ⟨hx,hs⟩:=List.nodup_cons.1 hs
  have hvs:∀ v∈adj.getD x.toNat [],aq3 [v]:=fun v hv=>aq3.one ((ha x).ok v hv)
  have key:∀ v,v∈adj.getD x.toNat []->(matB adj s (bql u [v])=true↔HallC adj s (insert v (ofList u))):=fun v hv=>by
   have hun:=bq2 hu (hvs v hv)
   rw [ih _ hs hun.1,show ofList (bql u [v])=insert v (ofList u) from FS.ext fun y=>by
    rw [FS.mem_ofList,hun.2,FS.mem_insert,FS.mem_ofList];simp [or_comm]]
  rw [matB,List.any_eq_true]
  constructor
  ·rintro ⟨v,hv,h⟩
   rw [List.mem_filter] at hv
   exact hall_cons hx hv.1 (by rw [FS.mem_ofList];simpa using hv.2) ((key v hv.1).1 h)
  ·intro h
   obtain ⟨v,h1,h2,h3⟩:=hall_next h
   exact ⟨v,by rw [List.mem_filter];exact ⟨h1,by rw [FS.mem_ofList] at h2;simpa using h2⟩,(key v h1).2 h3⟩
theorem ind_trans {s:FS} (h0:∀ x,x∈s->0<=x):trR adj s=s.card↔HallC adj s.l (ofList []):=by
 have hle:=(tr_rk (adj:=adj)).le_card s
 constructor
 ·intro h L R hc
  have:=hqg (adj:=adj) (s:=s) (L:=L) (R:=R) fun x hx hl v hv _=>hc x hx hl v hv (by simp)
  show s.card<=_
  omega
 ·intro h
  obtain ⟨L,R,hc,e⟩:=lqf (adj:=adj) s
  have:s.card<=_:=h L R fun x hx hl v hv _=>hc x hx hl v hv (h0 x hx)
  omega
end
end Go.Am
namespace Go.Am
open Go Go.Proofs
set_option linter.unusedVariables false
set_option linter.unusedSimpArgs false
variable {w0:World}
attribute [local irreducible] AWP aqo
attribute [local congr] aqp
theorem count10_ret {cls:List Int} {s:FS} {c:Int} (hs:∀ x,x∈s->0<=x/\x<cls.length) (hl:s.l.length<=1000):Ret Tryz.prog w0 147 [ints cls,ints s.l,I c] (I (aq2 cls c s).card):=by
 intro H
 have hcnt:(aq2 cls c s).card=(s.l.filter fun x=>decide (0<=x/\cls[x.toNat]? =some c)).length:=rfl
 rw [hcnt]
 refine aqf Tryz.func147 rfl Tryz.ntmps147 (ts:=[6]) rfl (by simp) (by kernel_rfl) ?_
 repeat'(with_reducible first|(refine aqd (hK _ _ ?_);clear hK K)|refine vr [] fun K hK=>?_|(refine aqa fun K' hK'=>?_;simp[ints];repeat'(first|(apply hK';clear hK' K')|fail))|refine sp ?_|fail)
 refine aqi (fun env h=>∃ q:Nat,q<=s.l.length/\h=H/\env 8=I q/\env 7=I ((s.l.take q).filter fun x=>decide (0<=x/\cls[x.toNat]? =some c)).length/\env 0=ints cls/\env 1=ints s.l/\env 2=I c) (fun env _=>s.l.length-natA (env 8)) ?_ ?_
 ·exact ⟨0,by omega,rfl,by simp,by simp,by simp [ints],by simp [ints],by simp⟩
 rintro env h ⟨q,hq,rfl,h8,h7,h0,h1,h2⟩
 have hnat:natA (env 8)=q:=by simp [h8]
 rw [hnat];clear hnat
 by_cases g1:q<s.l.length
 ·obtain ⟨y,hy⟩:∃ y,s.l[q]=y:=⟨_,rfl⟩
  have hym:=hs y (by rw [<-bqa,<-hy];exact List.getElem_mem _)
  have htk:s.l.take (q+1)=s.l.take q++[y]:=by rw [List.take_succ_eq_append_getElem g1,hy]
  have hgy:∀ h,s.l[q]'h=y:=fun _=>hy
  have hgo:s.l[q]? =some y:=by simp [g1,hy]
  have hyt:y.toNat<cls.length:=by omega
  obtain ⟨z,hz⟩:∃ z,cls[y.toNat]=z:=⟨_,rfl⟩
  have hzo:cls[y.toNat]? =some z:=by simp [hyt,hz]
  have hzg:∀ h,cls[y.toNat]'h=z:=fun _=>hz
  have hle:((s.l.take q).filter fun x=>decide (0<=x/\cls[x.toNat]? =some c)).length<=1000:=by
   have:=List.length_filter_le (fun x=>decide (0<=x/\cls[x.toNat]? =some c)) (s.l.take q)
   rw [List.length_take] at this
   omega
  have hnew:(s.l.take (q+1)).filter (fun x=>decide (0<=x/\cls[x.toNat]? =some c))=(s.l.take q).filter (fun x=>decide (0<=x/\cls[x.toNat]? =some c))++if z=c then [y] else []:=by
   rw [htk,List.filter_append]
   congr 1
   by_cases e:z=c
   ·rw [if_pos e];simp [hzo,e,hym.1]
   ·rw [if_neg e];simp [hzo,e]
  generalize (s.l.take q).filter (fun x=>decide (0<=x/\cls[x.toNat]? =some c))=o at *
  by_cases e:z=c
  ·rw [if_pos e] at hnew
   repeat'(with_reducible first|(refine aqd (hK _ _ ?_);clear hK K)|refine vr [] fun K hK=>?_|((first|refine aqa fun K' hK'=>?_|refine aqb fun K' B hK' hB=>?_);simp[h8,h7,h0,h1,h2,ints,g1,hgy,hgo,hym.1,hyt,hzo,hzg,(eq_true e)];repeat'(first|((first|refine hK' ?_|refine hB ?_);clear hK' hB K' B)|(apply hK';clear hK' K')|refine And.intro ?_ ?_|(clear hK' K';omega)))|refine sp ?_|fail)
   exact ⟨⟨q+1,by omega,rfl,by simp,by rw [hnew];simp,by simp [h0,ints],by simp [h1,ints],by simp [h2]⟩,by simp;omega⟩
  ·rw [if_neg e,List.append_nil] at hnew
   repeat'(with_reducible first|(refine aqd (hK _ _ ?_);clear hK K)|refine vr [] fun K hK=>?_|((first|refine aqa fun K' hK'=>?_|refine aqb fun K' B hK' hB=>?_);simp[h8,h7,h0,h1,h2,ints,g1,hgy,hgo,hym.1,hyt,hzo,hzg,e];repeat'(first|((first|refine hK' ?_|refine hB ?_);clear hK' hB K' B)|(apply hK';clear hK' K')|refine And.intro ?_ ?_|(clear hK' K';omega)))|refine sp ?_|fail)
   exact ⟨⟨q+1,by omega,rfl,by simp,by rw [hnew];simp [h7],by simp [h0,ints],by simp [h1,ints],by simp [h2]⟩,by simp;omega⟩
 ·rw [List.take_of_length_le (by omega)] at h7
  repeat'(with_reducible first|(refine aqd (hK _ _ ?_);clear hK K)|refine vr [] fun K hK=>?_|((first|refine aqa fun K' hK'=>?_|refine aqb fun K' B hK' hB=>?_);simp[h8,h7,h0,h1,h2,ints,g1];repeat'(first|((first|refine hK' ?_|refine hB ?_);clear hK' hB K' B)|(apply hK';clear hK' K')|fail))|apply aqc|refine sp ?_|fail)
  exact ⟨by simp,.refl _⟩
set_option maxRecDepth 20000 in
theorem mq8 {adj:List (List Int)} (ha:∀ x:Int,aq3 (adj.getD x.toNat [])) (hal:∀ x:Int,(adj.getD x.toNat []).length<=64):∀ (s u:List Int),(∀ x∈s,0<=x/\x<adj.length)->s.length<=1000->aq3 u->u.length+s.length<=2000->
  Ret Tryz.prog w0 148 [rows adj,ints s,ints u] (B (matB adj s u)):=by
 intro s
 induction s with
 | nil=>
  intro u _ _ _ _ H
  refine aqf Tryz.func148 rfl Tryz.ntmps148 (ts:=[6]) rfl (by simp) (by kernel_rfl) ?_
  repeat'(with_reducible first|(refine sp (hK _ _ ?_);clear hK K)|refine vr [] fun K hK=>?_|((first|refine aqa fun K' hK'=>?_|refine aqb fun K' B hK' hB=>?_);simp[ints,rows];repeat'(first|((first|refine hK' ?_|refine hB ?_);clear hK' hB K' B)|(apply hK';clear hK' K')|fail))|apply aqc|refine sp ?_|fail)
  exact ⟨by simp [matB],.refl _⟩
 | cons x s ih=>
  intro u hs hsl hu hul H
  have hx:=hs x (by simp)
  have hsl':s.length+1<=1000:=hsl
  have hul':u.length+(s.length+1)<=2000:=hul
  have hax:=ha x
  have haxl:=hal x
  have hxt:x.toNat<adj.length:=by omega
  have hgx:∀ h,adj[x.toNat]'h=adj.getD x.toNat []:=fun h=>by simp [h]
  have hgo:adj[x.toNat]? =some (adj.getD x.toNat []):=by simp [hxt]
  rw [matB]
  obtain ⟨N,hN⟩:∃ N,(adj.getD x.toNat []).filter (fun v=> !decide (v∈u))=N:=⟨_,rfl⟩
  have c1:Ret Tryz.prog w0 34 [ints (adj.getD x.toNat []),ints u] (ints N):=by
   have:=gqb (w0:=w0) (a:=adj.getD x.toNat []) (b:=u) (by omega) (by omega)
   rw [if_pos (by rw [Bool.and_eq_true];exact ⟨aqs.2 hax,aqs.2 hu⟩),hN] at this
   exact this
  have hNl:N.length<=64:=by
   rw [<-hN]
   exact Nat.le_trans (List.length_filter_le _ _) haxl
  have hNs:∀ v∈N,aq3 [v]/\v∉u:=fun v hv=>by
   rw [<-hN,List.mem_filter] at hv
   exact ⟨aq3.one (hax.ok v hv.1),by simpa using hv.2⟩
  rw [hN]
  clear hN
  generalize adj.getD x.toNat []=ax at *
  refine aqf Tryz.func148 rfl Tryz.ntmps148 (ts:=[6]) rfl (by simp) (by kernel_rfl) ?_
  have hne:((s.length:Int)+1=0)=False:=eq_false (by omega)
  repeat'(with_reducible first|(refine sp (hK _ _ ?_);clear hK K)|refine vr [] fun K hK=>?_|((first|refine aqa fun K' hK'=>?_|refine aqb fun K' B hK' hB=>?_);simp[ints,rows,hx.1,hxt,hgx,hgo,hne];repeat'(first|((first|refine hK' ?_|refine hB ?_);clear hK' hB K' B)|(apply hK';clear hK' K')|refine Ret.use c1 ?_|refine And.intro ?_ ?_|(clear hK' K';omega)))|refine sp ?_|fail)
  refine aqi (fun env h=>∃ q:Nat,q<=N.length/\h=H/\(∀ v∈N.take q,matB adj s (bql u [v])=false)/\env 8=I q/\env 7=ints N/\env 0=rows adj/\env 1=ints (x::s)/\env 2=ints u) (fun env _=>N.length-natA (env 8)) ?_ ?_
  ·exact ⟨0,by omega,rfl,by simp,by simp,by simp [ints],by simp [rows],by simp [ints],by simp [ints]⟩
  rintro env h ⟨q,hq,rfl,hf,h8,h7,h0,h1,h2⟩
  have hnat:natA (env 8)=q:=by simp [h8]
  rw [hnat];clear hnat
  by_cases g1:q<N.length
  ·obtain ⟨v,hv⟩:∃ v,N[q]=v:=⟨_,rfl⟩
   have hvm:v∈N:=by rw [<-hv];exact List.getElem_mem _
   obtain ⟨hv1,hv2⟩:=hNs v hvm
   have htk:N.take (q+1)=N.take q++[v]:=by rw [List.take_succ_eq_append_getElem g1,hv]
   have hun:=bq2 hu hv1
   have c2:=lqe (w0:=w0) (a:=u) (b:=[v]) (by simp;omega)
   have hul2:(bql u [v]).length<=u.length+1:=by
    rw [<-jq2 hu hv1]
    have:=union_len_le hu hv1
    simpa using this
   have c3:=ih (bql u [v]) (fun y hy=>hs y (by simp [hy])) (by omega) hun.1 (by omega)
   obtain ⟨U,hU⟩:∃ U,bql u [v]=U:=⟨_,rfl⟩
   have hsl1:(N.map I |>.drop q |>.take 1)=[I v]:=by
    rw [List.drop_eq_getElem_cons (by simpa using g1)]
    simp [hv]
   cases hm:matB adj s (bql u [v]) with
   | true=>
    rw [hm] at c3
    have hany:(N.any fun v=>matB adj s (bql u [v]))=true:=List.any_eq_true.2 ⟨v,hvm,hm⟩
    rw [hU] at c2 c3
    simp only [ints,List.map_cons,List.map_nil,List.length_singleton] at c2
    repeat'(with_reducible first|(refine sp (hK _ _ ?_);clear hK K)|refine vr [] fun K hK=>?_|(refine vd [] [28] mixed fun K hK=>?_)|((first|refine aqa fun K' hK'=>?_|refine aqb fun K' B hK' hB=>?_|refine aqn fun K' hK'=>?_);simp[h8,h7,h0,h1,h2,ints,rows,g1,hsl1,boxes,Blk.isArr,aqg.refl];repeat'(first|((first|refine hK' ?_|refine hB ?_);clear hK' hB K' B)|(apply hK';clear hK' K')|(refine Ret.use c2 ?_;try simp[h8,h7,h0,h1,h2,ints,rows,g1,hsl1,boxes,Blk.isArr,aqg.refl])|(refine Ret.use c3 ?_;try simp[h8,h7,h0,h1,h2,ints,rows,g1,hsl1,boxes,Blk.isArr,aqg.refl])|refine And.intro ?_ ?_|(clear hK' K';omega)))|apply aqc|refine sp ?_|fail)
    exact ⟨by simp [hany],.refl _⟩
   | false=>
    rw [hm] at c3
    have hm':=hm
    rw [hU] at c2 c3
    simp only [ints,List.map_cons,List.map_nil,List.length_singleton] at c2
    repeat'(with_reducible first|(refine sp (hK _ _ ?_);clear hK K)|refine vr [] fun K hK=>?_|(refine vd [] [28] mixed fun K hK=>?_)|((first|refine aqa fun K' hK'=>?_|refine aqb fun K' B hK' hB=>?_|refine aqn fun K' hK'=>?_);simp[h8,h7,h0,h1,h2,ints,rows,g1,hsl1,boxes,Blk.isArr,aqg.refl];repeat'(first|((first|refine hK' ?_|refine hB ?_);clear hK' hB K' B)|(apply hK';clear hK' K')|(refine Ret.use c2 ?_;try simp[h8,h7,h0,h1,h2,ints,rows,g1,hsl1,boxes,Blk.isArr,aqg.refl])|(refine Ret.use c3 ?_;try simp[h8,h7,h0,h1,h2,ints,rows,g1,hsl1,boxes,Blk.isArr,aqg.refl])|refine And.intro ?_ ?_|(clear hK' K';omega)))|refine sp ?_|fail)
    refine ⟨⟨q+1,by omega,rfl,fun w hw=> ?_,by simp,by simp [h7,ints],by simp [h0,rows],by simp [h1,ints],by simp [h2,ints]⟩,by simp;omega⟩
    rw [htk] at hw
    rcases List.mem_append.1 hw with hw | hw
    ·exact hf w hw
    ·rw [List.mem_singleton.1 hw];exact hm'
  ·rw [List.take_of_length_le (by omega)] at hf
   have hany:(N.any fun v=>matB adj s (bql u [v]))=false:=by rw [List.any_eq_false];intro v hv;simp [hf v hv]
   repeat'(with_reducible first|(refine sp (hK _ _ ?_);clear hK K)|refine vr [] fun K hK=>?_|((first|refine aqa fun K' hK'=>?_|refine aqb fun K' B hK' hB=>?_);simp[h8,h7,h0,h1,h2,ints,rows,g1];repeat'(first|((first|refine hK' ?_|refine hB ?_);clear hK' hB K' B)|(apply hK';clear hK' K')|fail))|apply aqc|refine sp ?_|fail)
   exact ⟨by simp [hany],.refl _⟩
end Go.Am
