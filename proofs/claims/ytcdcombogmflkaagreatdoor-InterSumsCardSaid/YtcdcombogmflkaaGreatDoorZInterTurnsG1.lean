/- Contracts and plain laws that the law InterTurnsG needs, part 1. -/
import Derived.Laws.AppendOwn
import Derived.Laws.MakeOwn
import Derived.Laws.CopyRow
import Derived.Laws.Slices
import Derived.Calls
import Derived.Tactics
import Derived.Below
import Derived.Maps.RangeRun
namespace Go.Am
open Go
theorem kqs (w:World) (o:Obj):(w.alloc o).heap[w.heap.size]? =some o:=by
 show (w.heap.push o)[w.heap.size]? =_
 simp
theorem kqr (w:World) (o:Obj) (i:Nat) (h:i<w.heap.size):(w.alloc o).heap[i]? =w.heap[i]? :=by
 show (w.heap.push o)[i]? =_
 rw [Array.getElem?_push,if_neg (by omega)]
inductive AV where
 | sc (v:Value)
 | sl (cells:List AV) (n:Nat)
 | csl (cells:List AV) (n:Nat)
 | ref (r off len top:Nat)
 | cref (r off len top:Nat)
 | ptr (r top off:Nat)
 | eptr (cells:List AV) (off:Nat)
 | agg (cells:List AV)
 | tup (vs:List AV)
 | clo (f:FuncId) (first caps:List AV)
 | ifc (t:TypeId) (v:AV)
 | mp (r:Nat)
 | fmp (kv:List (Int×Int))
instance:Inhabited AV:=⟨.sc undef⟩
def AV.one:AV->Bool
 | .agg _=>false
 | .tup _=>false
 | .sc v=>v.oneCell'
 | _=>true
inductive Blk where
 | arr (es:Nat) (e:TypeId) (cells:List AV) (n:Nat)
 | box (cells:List AV)
 | mapI (kv:List (Int×Int))
 | iter (kv:List (Int×Int)) (left:Nat) (cur:Option (Int×Int))
def Blk.gen:Blk->Nat
 | .arr _ _ _ n=>n
 | _=>0
def Blk.isArr:Blk->Bool
 | .arr .. =>true
 | _=>false
abbrev Env:=Nat->AV
abbrev Heap:=Nat->Option Blk
abbrev Mt:=Nat->Nat->Option (Option Addr×Nat×Nat)
abbrev Ft:=Nat->Option Obj
def upd {α:Type} (e:Nat->α) (i:Nat) (v:α):Nat->α:=fun j=>if j=i then v else e j
theorem aqj {α:Type} (e:Nat->α) (i:Nat) (v:α):upd e i v i=v:=by simp [upd]
theorem aqm {α:Type} (e:Nat->α) (i:Nat) (v:α) {j:Nat} (h:j≠i):upd e i v j=e j:=by simp [upd,h]
theorem aqx {α:Type} (e:Nat->α) (i:Nat) (u v:α):upd (upd e i u) i v=upd e i v:=by
 funext j;unfold upd;split<;>rfl
theorem aq9 {α:Type} (e:Nat->α) {i j:Nat} (u v:α) (h:i≠j):upd (upd e i u) j v=upd (upd e j v) i u:=by
 funext k;unfold upd;by_cases h1:k=j
 ·subst h1;simp;intro h2;exact absurd h2.symm h
 ·simp [h1]
theorem hqb {α:Type} (e:Nat->α) (i:Nat):upd e i (e i)=e:=by
 funext j;unfold upd;split
 ·rename_i h;rw [h]
 ·rfl
def eqy (kv:List (Int×Int)) (es:Array MapEntry):Prop:=
 es.toList.map (fun e=>(e.key,e.val))=kv.map (fun p=>(Value.int .i64 p.1,Value.int .i64 p.2))
def fq9 (es:Array MapEntry) (clock:Nat):Prop:=(es.toList.map (·.born)).Nodup/\∀ x∈es.toList,x.born<clock
inductive VR (F:Ft) (M:Mt):AV->Value->Prop
 | sc (v:Value):VR F M (.sc v) v
 | sl {cells:List AV} {n b o c:Nat} {cs:Array Value} {e:TypeId} {fz:Nat×Nat} (f:Nat->Value)
   (hF:F b=some (.cells cs e fz)) (hn:n<=c)
   (h1:∀ (i:Nat) (av:AV),cells[i]? =some av->cs[o+i]? =some (f i)) (h2:∀ (i:Nat) (av:AV),cells[i]? =some av->VR F M av (f i))
   (ho:∀ (i:Nat) (av:AV),cells[i]? =some av->av.one=true):VR F M (.sl cells n) (.slice (some ⟨b,o,none⟩) n c)
 | sl0 {a:Option Addr} {c:Nat}:VR F M (.sl [] 0) (.slice a 0 c)
 | csl {cells:List AV} {n b o:Nat} {cs:Array Value} {e:TypeId} {fz:Nat×Nat} (f:Nat->Value)
   (hF:F b=some (.cells cs e fz))
   (h1:∀ (i:Nat) (av:AV),cells[i]? =some av->cs[o+i]? =some (f i)) (h2:∀ (i:Nat) (av:AV),cells[i]? =some av->VR F M av (f i))
   (ho:∀ (i:Nat) (av:AV),cells[i]? =some av->av.one=true):VR F M (.csl cells n) (.slice (some ⟨b,o,none⟩) n n)
 | csl0 {a:Option Addr}:VR F M (.csl [] 0) (.slice a 0 0)
 | ref {r off len top cap es c:Nat} {a b:Option Addr} (hM:M r top=some (a,cap,es)) (hl:len<=c) (hc:off+c<=cap)
   (hz:c=0\/∃ g o,a=some ⟨g,o,none⟩/\b=some ⟨g,o+off*es,none⟩):VR F M (.ref r off len top) (.slice b len c)
 | cref {r off len top cap es:Nat} {a b:Option Addr} (hM:M r top=some (a,cap,es)) (hc:off+len<=cap)
   (hz:len=0\/∃ g o,a=some ⟨g,o,none⟩/\b=some ⟨g,o+off*es,none⟩):VR F M (.cref r off len top) (.slice b len len)
 | ptr {r top off g o cap es:Nat} (hM:M r top=some (some ⟨g,o,none⟩,cap,es)):VR F M (.ptr r top off) (.pointer (some ⟨g,o+off,none⟩))
 | eptr {cells:List AV} {off b o:Nat} {cs:Array Value} {e:TypeId} {fz:Nat×Nat} (f:Nat->Value)
   (hF:F b=some (.cells cs e fz))
   (h1:∀ (i:Nat) (av:AV),cells[i]? =some av->cs[o+i]? =some (f i)) (h2:∀ (i:Nat) (av:AV),cells[i]? =some av->VR F M av (f i))
   (ho:∀ (i:Nat) (av:AV),cells[i]? =some av->av.one=true):VR F M (.eptr cells off) (.pointer (some ⟨b,o+off,none⟩))
 | agg {cells:List AV} {cs:Array Value} (f:Nat->Value) (hs:cs.size=cells.length)
   (h1:∀ (i:Nat) (av:AV),cells[i]? =some av->cs[i]? =some (f i)) (h2:∀ (i:Nat) (av:AV),cells[i]? =some av->VR F M av (f i))
   (ho:∀ (i:Nat) (av:AV),cells[i]? =some av->av.one=true):VR F M (.agg cells) (.agg cs)
 | tup {vs:List AV} {cs:Array Value} (f:Nat->Value) (hs:cs.size=vs.length)
   (h1:∀ (i:Nat) (av:AV),vs[i]? =some av->cs[i]? =some (f i)) (h2:∀ (i:Nat) (av:AV),vs[i]? =some av->VR F M av (f i)):VR F M (.tup vs) (.tuple cs)
 | clo {fn:FuncId} {first caps:List AV} {cs ds:Array Value} (f g:Nat->Value) (hs:cs.size=first.length) (ht:ds.size=caps.length)
   (h1:∀ (i:Nat) (av:AV),first[i]? =some av->cs[i]? =some (f i)) (h2:∀ (i:Nat) (av:AV),first[i]? =some av->VR F M av (f i))
   (h3:∀ (i:Nat) (av:AV),caps[i]? =some av->ds[i]? =some (g i)) (h4:∀ (i:Nat) (av:AV),caps[i]? =some av->VR F M av (g i)):VR F M (.clo fn first caps) (.func (.func fn) cs ds)
 | ifc {t:TypeId} {v:AV} {cv:Value} (h:VR F M v cv):VR F M (.ifc t v) (.iface t cv)
 | mp {r g o cap es:Nat} (hM:M r 0=some (some ⟨g,o,none⟩,cap,es)):VR F M (.mp r) (.map (some g))
 | fmp {kv:List (Int×Int)} {g clock:Nat} {es:Array MapEntry} (hF:F g=some (.map es clock)) (hr:eqy kv es) (hb:fq9 es clock):VR F M (.fmp kv) (.map (some g))
def VRL (F:Ft) (M:Mt) (avs:List AV) (cvs:List Value):Prop:=
 avs.length=cvs.length/\∀ (i:Nat) (av:AV) (cv:Value),avs[i]? =some av->cvs[i]? =some cv->VR F M av cv
def VRC (F:Ft) (M:Mt) (cells:List AV) (cs:Array Value) (o:Nat):Prop:=
 ∀ (i:Nat) (av:AV),cells[i]? =some av->av.one=true/\∃ cv,cs[o+i]? =some cv/\VR F M av cv
structure Ext (F F':Ft) (M M':Mt):Prop where
 f:∀ b o,F b=some o->F' b=some o
 m:∀ r t x,M r t=some x->M' r t=some x
theorem Ext.refl (F:Ft) (M:Mt):Ext F F M M:=⟨fun _ _ h=>h,fun _ _ _ h=>h⟩
theorem Ext.trans {F F' F'':Ft} {M M' M'':Mt} (h:Ext F F' M M') (k:Ext F' F'' M' M''):Ext F F'' M M'':=
 ⟨fun b o x=>k.f b o (h.f b o x),fun r t x y=>k.m r t x (h.m r t x y)⟩
theorem VR.mono {F F':Ft} {M M':Mt} (x:Ext F F' M M') {av:AV} {cv:Value} (h:VR F M av cv):VR F' M' av cv:=by
 induction h with
 | sc v=>exact .sc v
 | sl f hF hn h1 _ ho ih=>exact .sl f (x.f _ _ hF) hn h1 ih ho
 | sl0=>exact .sl0
 | csl f hF h1 _ ho ih=>exact .csl f (x.f _ _ hF) h1 ih ho
 | csl0=>exact .csl0
 | ref hM hl hc hz=>exact .ref (x.m _ _ _ hM) hl hc hz
 | cref hM hc hz=>exact .cref (x.m _ _ _ hM) hc hz
 | ptr hM=>exact .ptr (x.m _ _ _ hM)
 | eptr f hF h1 _ ho ih=>exact .eptr f (x.f _ _ hF) h1 ih ho
 | agg f hs h1 _ ho ih=>exact .agg f hs h1 ih ho
 | tup f hs h1 _ ih=>exact .tup f hs h1 ih
 | clo f g hs ht h1 _ h3 _ ih1 ih2=>exact .clo f g hs ht h1 ih1 h3 ih2
 | ifc _ ih=>exact .ifc ih
 | mp hM=>exact .mp (x.m _ _ _ hM)
 | fmp hF hr hb=>exact .fmp (x.f _ _ hF) hr hb
theorem VRL.mono {F F':Ft} {M M':Mt} (x:Ext F F' M M') {avs:List AV} {cvs:List Value} (h:VRL F M avs cvs):VRL F' M' avs cvs:=
 ⟨h.1,fun i av cv a b=>(h.2 i av cv a b).mono x⟩
theorem VRC.mono {F F':Ft} {M M':Mt} (x:Ext F F' M M') {cells:List AV} {cs:Array Value} {o:Nat} (h:VRC F M cells cs o):VRC F' M' cells cs o:=
 fun i av a=>let ⟨p,cv,q,r⟩:=h i av a;⟨p,cv,q,r.mono x⟩
theorem VR.one {F:Ft} {M:Mt} {av:AV} {cv:Value} (h:VR F M av cv):av.one=cv.oneCell':=by
 cases h<;>rfl
theorem VRC.fn {F:Ft} {M:Mt} {cells:List AV} {cs:Array Value} {o:Nat} (h:VRC F M cells cs o):
  ∃ f:Nat->Value,(∀ (i:Nat) (av:AV),cells[i]? =some av->cs[o+i]? =some (f i))/\(∀ (i:Nat) (av:AV),cells[i]? =some av->VR F M av (f i))/\(∀ (i:Nat) (av:AV),cells[i]? =some av->av.one=true):=by
 refine ⟨fun i=>(cs[o+i]?).getD undef,?_,?_,fun i av a=>(h i av a).1⟩
 ·intro i av a
  obtain ⟨_,cv,hc,_⟩:=h i av a
  simp [hc]
 ·intro i av a
  obtain ⟨_,cv,hc,hv⟩:=h i av a
  simpa [hc] using hv
theorem VRC.of {F:Ft} {M:Mt} {cells:List AV} {cs:Array Value} {o:Nat} {f:Nat->Value}
  (h1:∀ (i:Nat) (av:AV),cells[i]? =some av->cs[o+i]? =some (f i)) (h2:∀ (i:Nat) (av:AV),cells[i]? =some av->VR F M av (f i))
  (ho:∀ (i:Nat) (av:AV),cells[i]? =some av->av.one=true):VRC F M cells cs o:=
 fun i av a=>⟨ho i av a,f i,h1 i av a,h2 i av a⟩
theorem VRL.fn {F:Ft} {M:Mt} {avs:List AV} {cvs:List Value} (h:VRL F M avs cvs):
  ∃ f:Nat->Value,(∀ (i:Nat) (av:AV),avs[i]? =some av->cvs.toArray[i]? =some (f i))/\(∀ (i:Nat) (av:AV),avs[i]? =some av->VR F M av (f i)):=by
 refine ⟨fun i=>(cvs[i]?).getD undef,?_,?_⟩
 ·intro i av a
  have hi:i<cvs.length:=by rw [<-h.1];exact (List.getElem?_eq_some_iff.1 a).1
  simp [hi]
 ·intro i av a
  have hi:i<cvs.length:=by rw [<-h.1];exact (List.getElem?_eq_some_iff.1 a).1
  have:=h.2 i av cvs[i] a (by simp [hi])
  simpa [hi] using this
theorem VRL.of {F:Ft} {M:Mt} {avs:List AV} {cs:Array Value} {f:Nat->Value} (hs:cs.size=avs.length)
  (h1:∀ (i:Nat) (av:AV),avs[i]? =some av->cs[i]? =some (f i)) (h2:∀ (i:Nat) (av:AV),avs[i]? =some av->VR F M av (f i)):VRL F M avs cs.toList:=
 ⟨by simp [hs],fun i av cv a b=>by
  have e:=h1 i av a
  simp only [Array.getElem?_toList] at b
  rw [e] at b;cases b;exact h2 i av a⟩
theorem VRL.nil {F:Ft} {M:Mt}:VRL F M [] []:=⟨rfl,by simp⟩
theorem VRL.cons {F:Ft} {M:Mt} {av:AV} {cv:Value} {avs:List AV} {cvs:List Value} (h:VR F M av cv) (t:VRL F M avs cvs):VRL F M (av::avs) (cv::cvs):=by
 refine ⟨by simp [t.1],fun i a c x y=> ?_⟩
 cases i with
 | zero=>simp at x y;subst x y;exact h
 | succ i=>simp at x y;exact t.2 i a c x y
theorem VRL.append {F:Ft} {M:Mt} {avs bvs:List AV} {cvs dvs:List Value} (h:VRL F M avs cvs) (t:VRL F M bvs dvs):VRL F M (avs++bvs) (cvs++dvs):=by
 refine ⟨by simp [h.1,t.1],fun i a c x y=> ?_⟩
 rw [List.getElem?_append] at x y
 rw [h.1] at x
 by_cases hi:i<cvs.length
 ·rw [if_pos hi] at x y;exact h.2 i a c x y
 ·rw [if_neg hi] at x y;exact t.2 _ a c x y
theorem VRL.get {F:Ft} {M:Mt} {avs:List AV} {cvs:List Value} (h:VRL F M avs cvs) {i:Nat} {av:AV} (a:avs[i]? =some av):∃ cv,cvs[i]? =some cv/\VR F M av cv:=by
 have hi:i<cvs.length:=by rw [<-h.1];exact (List.getElem?_eq_some_iff.1 a).1
 exact ⟨cvs[i],by simp [hi],h.2 i av _ a (by simp [hi])⟩
theorem VRL.map {F:Ft} {M:Mt} {α:Type} {f:α->AV} {g:α->Value} (l:List α) (h:∀ x∈l,VR F M (f x) (g x)):VRL F M (l.map f) (l.map g):=by
 induction l with
 | nil=>exact .nil
 | cons x l ih=>exact .cons (h x (by simp)) (ih fun y hy=>h y (by simp [hy]))
def AV.cells:AV->List AV
 | .agg cs=>cs
 | v=>[v]
theorem VR.cellsL {F:Ft} {M:Mt} {av:AV} {cv:Value} (h:VR F M av cv) (hsc:∀ v,av= .sc v->v.oneCell'=true):VRL F M av.cells cv.cells.toList:=by
 cases h with
 | agg f hs h1 h2 ho=>exact VRL.of hs h1 h2
 | sc=>
  have:=hsc cv rfl
  cases cv<;>first | exact .cons (.sc _) .nil | (simp [Value.oneCell'] at this)
 | sl f hF hn h1 h2 ho=>exact .cons (.sl f hF hn h1 h2 ho) .nil
 | sl0=>exact .cons .sl0 .nil
 | csl f hF h1 h2 ho=>exact .cons (.csl f hF h1 h2 ho) .nil
 | csl0=>exact .cons .csl0 .nil
 | ref hM hl hc hz=>exact .cons (.ref hM hl hc hz) .nil
 | cref hM hc hz=>exact .cons (.cref hM hc hz) .nil
 | ptr hM=>exact .cons (.ptr hM) .nil
 | eptr f hF h1 h2 ho=>exact .cons (.eptr f hF h1 h2 ho) .nil
 | tup f hs h1 h2=>exact .cons (.tup f hs h1 h2) .nil
 | clo f g hs ht h1 h2 h3 h4=>exact .cons (.clo f g hs ht h1 h2 h3 h4) .nil
 | ifc h=>exact .cons (.ifc h) .nil
 | mp hM=>exact .cons (.mp hM) .nil
 | fmp hF hr hb=>exact .cons (.fmp hF hr hb) .nil
def AV.cellsOne (v:AV):Prop:=
 match v with
 | .agg _=>True
 | v=>v.one=true
theorem VR.cellsOne' {F:Ft} {M:Mt} {av:AV} {cv:Value} (h:VR F M av cv) (hc:av.cellsOne):∀ (i:Nat) (x:AV),av.cells[i]? =some x->x.one=true:=by
 cases h with
 | agg f hs h1 h2 ho=>exact ho
 | _=>
  intro i x hx
  simp only [AV.cells] at hx
  cases i with
  | zero=>simp at hx;subst hx;first | exact hc | rfl
  | succ i=>simp at hx
theorem VR.cellsC {F:Ft} {M:Mt} {av:AV} {cv:Value} (h:VR F M av cv) (hc:av.cellsOne):VRC F M av.cells cv.cells 0:=by
 have h1:=h.cellsOne' hc
 have h2:VRL F M av.cells cv.cells.toList:=by
  apply h.cellsL
  intro v e
  subst e
  exact hc
 intro i x hx
 obtain ⟨cv',hcv,hv⟩:=h2.get hx
 exact ⟨h1 i x hx,cv',by simpa using hcv,hv⟩
theorem VR.cellsSize {F:Ft} {M:Mt} {av:AV} {cv:Value} (h:VR F M av cv) (hc:av.cellsOne):cv.cells.size=av.cells.length:=by
 have h2:VRL F M av.cells cv.cells.toList:=by
  apply h.cellsL
  intro v e
  subst e
  exact hc
 simpa using h2.1.symm
def Owns (M:Mt) (r:Nat) (k:Blk) (g:Nat):Prop:=
 ∃ o cap es,M r k.gen=some (some ⟨g,o,none⟩,cap,es)/\(k.isArr=true->cap≠0)
def BlkR (F:Ft) (M:Mt) (w:World) (r:Nat):Blk->Prop
 | .arr es e cells n=>cells.length=n*es/\0<es/\∃ a cap,M r n=some (a,cap,es)/\n<=cap/\cap<=maxLen/\
   ((cap=0)\/∃ g o cs,a=some ⟨g,o,none⟩/\F g=none/\w.heap[g]? =some (.cells cs e (0,0))/\o+cap*es<=cs.size/\VRC F M cells cs o)
 | .box cells=>∃ g cs e,M r 0=some (some ⟨g,0,none⟩,1,1)/\F g=none/\w.heap[g]? =some (.cells cs e (0,0))/\cs.size=cells.length/\VRC F M cells cs 0
 | .mapI kv=>∃ g es clock,M r 0=some (some ⟨g,0,none⟩,1,1)/\F g=none/\w.heap[g]? =some (.map es clock)/\eqy kv es/\(kv.map (·.1)).Nodup/\fq9 es clock
 | .iter kv left cur=>∃ g gm es clock seen,M r 0=some (some ⟨g,0,none⟩,1,1)/\F g=none/\w.heap[g]? =some (.mapIter (some gm) clock seen clock)/\F gm=some (.map es clock)/\eqy kv es/\fq9 es clock/\
   left=(leftOf es seen).size/\∀ x,cur=some x->∃ e∈es.toList,∃ seen':Array Nat,seen=seen'.push e.born/\e.key= .int .i64 x.1/\e.val= .int .i64 x.2
structure Rel (w0 w:World) (F:Ft) (M:Mt) (H:Heap):Prop where
 os:w.os=w0.os
 tape:w.tape=w0.tape
 output:w.output=w0.output
 F0:∀ b,b<w0.heap.size->F b=w0.heap[b]?
 hF:∀ b o,F b=some o->w.heap[b]? =some o
 blk:∀ r k,H r=some k->BlkR F M w r k
 disj:∀ r1 r2 k1 k2 g,H r1=some k1->H r2=some k2->Owns M r1 k1 g->Owns M r2 k2 g->r1=r2
 gens:∀ r k,H r=some k->∀ t,k.gen<t->M r t=none
 fresh:∃ N,∀ r,N<=r->H r=none/\∀ t,M r t=none
theorem Rel.below {w0 w:World} {F:Ft} {M:Mt} {H:Heap} (h:Rel w0 w F M H):Go.RowKit.Below w0.heap.size w0 w:=by
 refine ⟨h.os,h.tape,h.output,?_,?_⟩
 ·rcases Nat.eq_zero_or_pos w0.heap.size with hz | hz
  ·omega
  ·have hb:w0.heap.size-1<w0.heap.size:=by omega
   have e:=h.hF (w0.heap.size-1) w0.heap[w0.heap.size-1] (by rw [h.F0 _ hb];simp [hb])
   have:=(Array.getElem?_eq_some_iff.1 e).1
   omega
 ·intro k hk
  have e:=h.hF k w0.heap[k] (by rw [h.F0 _ hk];simp [hk])
  rw [e];simp [hk]
def Sub (H H':Heap):Prop:=∀ r k,H r=some k->H' r=some k
theorem Sub.refl (H:Heap):Sub H H:=fun _ _ h=>h
theorem Sub.trans {H H' H'':Heap} (a:Sub H H') (b:Sub H' H''):Sub H H'':=fun r k h=>b r k (a r k h)
theorem Sub.upd {H H':Heap} (a:Sub H H') {r:Nat} (h:H r=none) (k:Option Blk):Sub H (upd H' r k):=by
 intro r' k' h'
 by_cases e:r'=r
 ·subst e;rw [h] at h';cases h'
 ·rw [aqm _ _ _ e];exact a _ _ h'
theorem Sub.none {H:Heap} (r:Nat):Sub (Am.upd H r none) H:=by
 intro r' k' h'
 by_cases e:r'=r
 ·subst e;simp [aqj] at h'
 ·rwa [aqm _ _ _ e] at h'
theorem Rel.sub {w0 w:World} {F:Ft} {M:Mt} {H H':Heap} (h:Rel w0 w F M H') (s:Sub H H'):Rel w0 w F M H:=by
 obtain ⟨N,hN⟩:=h.fresh
 refine ⟨h.os,h.tape,h.output,h.F0,h.hF,fun r k x=>h.blk r k (s r k x),fun r1 r2 k1 k2 g a b=>h.disj r1 r2 k1 k2 g (s _ _ a) (s _ _ b),fun r k x=>h.gens r k (s r k x),N,fun r hr=>⟨?_,(hN r hr).2⟩⟩
 cases e:H r with
 | none=>rfl
 | some k=>have:=s r k e;rw [(hN r hr).1] at this;cases this
theorem Rel.drew {w0 w:World} {F:Ft} {M:Mt} {H:Heap} (h:Rel w0 w F M H):Rel w0 { w with drawn:=w.drawn+1 } F M H:=
 ⟨h.os,h.tape,h.output,h.F0,h.hF,fun r k x=>by
  have:=h.blk r k x
  cases k<;>exact this,h.disj,h.gens,h.fresh⟩
theorem Rel.F_lt {w0 w:World} {F:Ft} {M:Mt} {H:Heap} (h:Rel w0 w F M H) {b:Nat} {o:Obj} (hb:F b=some o):b<w.heap.size:=
 (Array.getElem?_eq_some_iff.1 (h.hF b o hb)).1
theorem Rel.F_none {w0 w:World} {F:Ft} {M:Mt} {H:Heap} (h:Rel w0 w F M H) {b:Nat} (hb:w.heap.size<=b):F b=none:=by
 cases e:F b with
 | none=>rfl
 | some o=>have:=h.F_lt e;omega
theorem BlkR.mono {F F':Ft} {M M':Mt} {w w':World} {r:Nat} {k:Blk} (x:Ext F F' M M') (h:BlkR F M w r k)
  (hw:∀ g,Owns M r k g->w'.heap[g]? =w.heap[g]? /\F' g=none):BlkR F' M' w' r k:=by
 cases k with
 | arr es e cells n=>
  obtain ⟨h1,h2,a,cap,h3,h4,h5,h6⟩:=h
  refine ⟨h1,h2,a,cap,x.m _ _ _ h3,h4,h5,?_⟩
  rcases h6 with h6 | ⟨g,o,cs,rfl,h7,h8,h9,h10⟩
  ·exact .inl h6
  ·by_cases hc:cap=0
   ·exact .inl hc
   ·have hg:=hw g ⟨o,cap,es,h3,fun _=>hc⟩
    exact .inr ⟨g,o,cs,rfl,hg.2,hg.1.trans h8,h9,h10.mono x⟩
 | box cells=>
  obtain ⟨g,cs,e,h1,h2,h3,h4,h5⟩:=h
  have hg:=hw g ⟨0,1,1,h1,fun h=>by simp [Blk.isArr] at h⟩
  exact ⟨g,cs,e,x.m _ _ _ h1,hg.2,hg.1.trans h3,h4,h5.mono x⟩
 | mapI kv=>
  obtain ⟨g,cs,e,h1,h2,h3,h4⟩:=h
  have hg:=hw g ⟨0,1,1,h1,fun h=>by simp [Blk.isArr] at h⟩
  exact ⟨g,cs,e,x.m _ _ _ h1,hg.2,hg.1.trans h3,h4⟩
 | iter kv left cur=>
  obtain ⟨g,gm,es,clock,seen,h1,h2,h3,h4,h5⟩:=h
  have hg:=hw g ⟨0,1,1,h1,fun h=>by simp [Blk.isArr] at h⟩
  exact ⟨g,gm,es,clock,seen,x.m _ _ _ h1,hg.2,hg.1.trans h3,x.f _ _ h4,h5⟩
theorem Rel.owned {w0 w:World} {F:Ft} {M:Mt} {H:Heap} (h:Rel w0 w F M H) {r g:Nat} {k:Blk} (hr:H r=some k) (ho:Owns M r k g):
  F g=none/\g<w.heap.size:=by
 obtain ⟨o,cap,es,hm,hc⟩:=ho
 have hb:=h.blk r k hr
 cases k with
 | arr es' e cells n=>
  obtain ⟨h1,h2,a,cap',h3,h4,h5,h6⟩:=hb
  simp only [Blk.gen] at hm
  rw [hm] at h3;cases h3
  rcases h6 with h6 | ⟨g',o',cs,e1,h7,h8,h9,h10⟩
  ·exact absurd h6 (hc rfl)
  ·cases e1;exact ⟨h7,(Array.getElem?_eq_some_iff.1 h8).1⟩
 | box cells=>
  obtain ⟨g',cs,e,h1,h2,h3,h4,h5⟩:=hb
  simp only [Blk.gen] at hm
  rw [hm] at h1;cases h1
  exact ⟨h2,(Array.getElem?_eq_some_iff.1 h3).1⟩
 | mapI kv=>
  obtain ⟨g',cs,e,h1,h2,h3,h4⟩:=hb
  simp only [Blk.gen] at hm
  rw [hm] at h1;cases h1
  exact ⟨h2,(Array.getElem?_eq_some_iff.1 h3).1⟩
 | iter kv left cur=>
  obtain ⟨g',gm,es,clock,seen,h1,h2,h3,h4⟩:=hb
  simp only [Blk.gen] at hm
  rw [hm] at h1;cases h1
  exact ⟨h2,(Array.getElem?_eq_some_iff.1 h3).1⟩
theorem Rel.step {w0 w w':World} {F:Ft} {M M':Mt} {H:Heap} (h:Rel w0 w F M H) (r r':Nat) (k':Blk)
  (hos:w'.os=w.os) (htape:w'.tape=w.tape) (hout:w'.output=w.output)
  (hsame:∀ b,b<w.heap.size->(∀ k,H r=some k->¬Owns M r k b)->w'.heap[b]? =w.heap[b]?)
  (hM:∀ s t,M' s t=M s t\/(s=r'/\t=k'.gen)) (hMx:∀ x,M r' k'.gen=some x->M' r' k'.gen=some x)
  (hr':r'=r\/H r'=none)
  (hk:BlkR F M' w' r' k') (hg:∀ g,Owns M' r' k' g->w.heap.size<=g\/∃ k,H r=some k/\Owns M r k g)
  (hgen:∀ t,k'.gen<t->M r' t=none):
  Ext F F M M'/\Rel w0 w' F M' (upd (upd H r none) r' (some k')):=by
 have x:Ext F F M M':=⟨fun _ _ h=>h,fun s t y hy=>by
  rcases hM s t with e | ⟨e1,e2⟩
  ·rw [e];exact hy
  ·subst e1 e2;exact hMx y hy⟩
 have old:∀ s k,(upd (upd H r none) r' (some k')) s=some k->s≠r'->H s=some k/\s≠r:=by
  intro s k hs hne
  rw [aqm _ _ _ hne] at hs
  by_cases e:s=r
  ·subst e;simp [aqj] at hs
  ·rw [aqm _ _ _ e] at hs;exact ⟨hs,e⟩
 have own:∀ s k,s≠r'->∀ g,Owns M' s k g->Owns M s k g:=by
  intro s k hne g ⟨o,cap,es,hm,hc⟩
  rcases hM s k.gen with e | ⟨e1,_⟩
  ·exact ⟨o,cap,es,e▸hm,hc⟩
  ·exact absurd e1 hne
 refine ⟨x,⟨hos.trans h.os,htape.trans h.tape,hout.trans h.output,h.F0,?_,?_,?_,?_,?_⟩⟩
 ·intro b o hb
  rw [hsame b (h.F_lt hb) (fun k hk ho=>by rw [(h.owned hk ho).1] at hb;cases hb)]
  exact h.hF b o hb
 ·intro s k hs
  by_cases e:s=r'
  ·subst e;simp [aqj] at hs;subst hs;exact hk
  ·obtain ⟨hs',hne⟩:=old s k hs e
   refine (h.blk s k hs').mono x fun g hg=> ?_
   have hgo:=h.owned hs' hg
   refine ⟨hsame g hgo.2 fun k2 hk2 ho=>hne (h.disj s r k k2 g hs' hk2 hg ho),hgo.1⟩
 ·intro s1 s2 k1 k2 g hs1 hs2 ho1 ho2
  by_cases e1:s1=r'<;>by_cases e2:s2=r'
  ·rw [e1,e2]
  ·subst e1
   simp [aqj] at hs1;subst hs1
   obtain ⟨hs2',hne⟩:=old s2 k2 hs2 e2
   have ho2':=own s2 k2 e2 g ho2
   rcases hg g ho1 with hlt | ⟨k3,hk3,ho3⟩
   ·have:=(h.owned hs2' ho2').2;omega
   ·exact absurd (h.disj s2 r k2 k3 g hs2' hk3 ho2' ho3) hne
  ·subst e2
   simp [aqj] at hs2;subst hs2
   obtain ⟨hs1',hne⟩:=old s1 k1 hs1 e1
   have ho1':=own s1 k1 e1 g ho1
   rcases hg g ho2 with hlt | ⟨k3,hk3,ho3⟩
   ·have:=(h.owned hs1' ho1').2;omega
   ·exact absurd (h.disj s1 r k1 k3 g hs1' hk3 ho1' ho3) hne
  ·obtain ⟨hs1',_⟩:=old s1 k1 hs1 e1
   obtain ⟨hs2',_⟩:=old s2 k2 hs2 e2
   exact h.disj s1 s2 k1 k2 g hs1' hs2' (own _ _ e1 g ho1) (own _ _ e2 g ho2)
 ·intro s k hs t ht
  by_cases e:s=r'
  ·subst e
   simp [aqj] at hs;subst hs
   rcases hM s t with e1 | ⟨_,e2⟩
   ·rw [e1];exact hgen t ht
   ·omega
  ·obtain ⟨hs',_⟩:=old s k hs e
   rcases hM s t with e1 | ⟨e2,_⟩
   ·rw [e1];exact h.gens s k hs' t ht
   ·exact absurd e2 e
 ·obtain ⟨N,hN⟩:=h.fresh
  refine ⟨max N (r'+1),fun s hs=> ?_⟩
  have h1:s≠r':=by omega
  refine ⟨?_,fun t=> ?_⟩
  ·rw [aqm _ _ _ h1]
   by_cases e:s=r
   ·subst e;simp [aqj]
   ·rw [aqm _ _ _ e];exact (hN s (by omega)).1
  ·rcases hM s t with e | ⟨e,_⟩
   ·rw [e];exact (hN s (by omega)).2 t
   ·exact absurd e h1
theorem Rel.freeze {w0 w:World} {F:Ft} {M:Mt} {H:Heap} (h:Rel w0 w F M H) (r:Nat) (k:Blk) (hr:H r=some k) (g:Nat) (hg:Owns M r k g) (o:Obj) (hw:w.heap[g]? =some o):
  Ext F (upd F g (some o)) M M/\Rel w0 w (upd F g (some o)) M (upd H r none):=by
 have hown:=h.owned hr hg
 have x:Ext F (upd F g (some o)) M M:=⟨fun b o' hb=>by
  by_cases e:b=g
  ·subst e;rw [hown.1] at hb;cases hb
  ·rw [aqm _ _ _ e];exact hb,fun _ _ _ h=>h⟩
 have old:∀ s k,(upd H r none) s=some k->H s=some k/\s≠r:=by
  intro s k hs
  by_cases e:s=r
  ·subst e;simp [aqj] at hs
  ·rw [aqm _ _ _ e] at hs;exact ⟨hs,e⟩
 refine ⟨x,⟨h.os,h.tape,h.output,?_,?_,?_,?_,?_,?_⟩⟩
 ·intro b hb
  by_cases e:b=g
  ·subst e
   have:=h.F0 b hb
   rw [hown.1] at this
   simp [hb] at this
  ·rw [aqm _ _ _ e];exact h.F0 b hb
 ·intro b o' hb
  by_cases e:b=g
  ·subst e;rw [aqj] at hb;cases hb;exact hw
  ·rw [aqm _ _ _ e] at hb;exact h.hF b o' hb
 ·intro s k' hs
  obtain ⟨hs',hne⟩:=old s k' hs
  refine (h.blk s k' hs').mono x fun g' hg'=>⟨rfl,?_⟩
  have e:g'≠g:=fun e=>by subst e;exact hne (h.disj s r k' k g' hs' hr hg' hg)
  rw [aqm _ _ _ e];exact (h.owned hs' hg').1
 ·intro s1 s2 k1 k2 g' hs1 hs2
  exact h.disj s1 s2 k1 k2 g' (old _ _ hs1).1 (old _ _ hs2).1
 ·intro s k' hs
  exact h.gens s k' (old _ _ hs).1
 ·obtain ⟨N,hN⟩:=h.fresh
  refine ⟨N,fun s hs=>⟨?_,(hN s hs).2⟩⟩
  by_cases e:s=r
  ·subst e;simp [aqj]
  ·rw [aqm _ _ _ e];exact (hN s hs).1
theorem Rel.newF {w0 w:World} {F:Ft} {M:Mt} {H:Heap} (h:Rel w0 w F M H) (o:Obj):
  Ext F (upd F w.heap.size (some o)) M M/\Rel w0 (w.alloc o) (upd F w.heap.size (some o)) M H:=by
 have hnone:=h.F_none (Nat.le_refl w.heap.size)
 have x:Ext F (upd F w.heap.size (some o)) M M:=⟨fun b o' hb=>by
  have:=h.F_lt hb
  rw [aqm _ _ _ (by omega)];exact hb,fun _ _ _ h=>h⟩
 have hh:∀ i,i<w.heap.size->(w.alloc o).heap[i]? =w.heap[i]? :=fun i hi=>kqr w o i hi
 refine ⟨x,⟨h.os,h.tape,h.output,?_,?_,?_,h.disj,h.gens,h.fresh⟩⟩
 ·intro b hb
  have:b<w.heap.size:=h.F_lt (o:=w0.heap[b]) (by rw [h.F0 b hb];simp [hb])
  rw [aqm _ _ _ (by omega)];exact h.F0 b hb
 ·intro b o' hb
  by_cases e:b=w.heap.size
  ·subst e;rw [aqj] at hb;cases hb;exact kqs w o
  ·rw [aqm _ _ _ e] at hb;rw [hh b (h.F_lt hb)];exact h.hF b o' hb
 ·intro s k hs
  refine (h.blk s k hs).mono x fun g hg=> ?_
  have:=h.owned hs hg
  refine ⟨hh g this.2,?_⟩
  rw [aqm _ _ _ (by omega)];exact this.1
structure EnvR (F:Ft) (M:Mt) (nt:Nat) (env:Env) (a:Act):Prop where
 size:a.tmps.size=nt
 defers:a.defers=[]
 slot:∀ i,VR F M (env i) (a.tmps.getD i undef)
theorem EnvR.mono {F F':Ft} {M M':Mt} {nt:Nat} {env:Env} {a:Act} (x:Ext F F' M M') (h:EnvR F M nt env a):EnvR F' M' nt env a:=
 ⟨h.size,h.defers,fun i=>(h.slot i).mono x⟩
theorem EnvR.put {F:Ft} {M:Mt} {nt:Nat} {env:Env} {a:Act} (h:EnvR F M nt env a) {d:Nat} (hd:d<nt) {av:AV} {cv:Value} (hv:VR F M av cv):
  EnvR F M nt (upd env d av) (a.put (some d) cv):=by
 refine ⟨by simp [Act.put,h.size],h.defers,fun i=> ?_⟩
 simp only [Act.put]
 by_cases e:i=d
 ·subst e
  have:i<a.tmps.size:=by rw [h.size];exact hd
  rw [aqj]
  simpa [Array.getD_eq_getD_getElem?,this] using hv
 ·rw [aqm _ _ _ e]
  have:=h.slot i
  have hne:¬d=i:=fun x=>e x.symm
  simpa [Array.getD_eq_getD_getElem?,Array.getElem?_setIfInBounds,hne] using this
end Go.Am
namespace Go.Am
open Go
section
variable (P:Program) (w0:World)
def Post (nt:Nat) (F:Ft) (M:Mt) (Q:Exit->Env->Heap->Prop):Exit->Act->World->Prop:=fun e a w=>
 ∃ env H F' M',Ext F F' M M'/\Rel w0 w F' M' H/\EnvR F' M' nt env a/\Q e env H
def AWP (nt:Nat) (c:Code) (Q:Exit->Env->Heap->Prop) (env:Env) (H:Heap):Prop:=
 ∀ w F M a,Rel w0 w F M H->EnvR F M nt env a->c.wp P (Post w0 nt F M Q) a w
def Returns (F:Ft) (M:Mt) (K:AV->Heap->Prop):Ending->World->Prop:=fun e w=>
 ∃ v cv H F' M',e= .returned cv/\Ext F F' M M'/\Rel w0 w F' M' H/\VR F' M' v cv/\K v H
def dqq (f:FuncId):Bool:=
 match P.funcs[f]? with
 | some fn => fn.name != "runtime.NumGoroutine" && fn.body.isSome
 | none=>false
def aqo (f:FuncId) (args:List AV) (H:Heap) (K:AV->Heap->Prop):Prop:=
 dqq P f=true/\∀ w F M cargs,Rel w0 w F M H->VRL F M args cargs.toList->Calls P f cargs w (Returns w0 F M K)
end
section
variable {P:Program} {w0:World} {nt:Nat}
theorem aqo.mono {f:FuncId} {args:List AV} {H:Heap} {K K':AV->Heap->Prop} (h:aqo P w0 f args H K) (hk:∀ v H',K v H'->K' v H'):aqo P w0 f args H K':=by
 refine ⟨h.1,fun w F M cargs hr hv=>(h.2 w F M cargs hr hv).mono ?_⟩
 rintro e w' ⟨v,cv,H',F',M',a,b,c,d,k⟩
 exact ⟨v,cv,H',F',M',a,b,c,d,hk v H' k⟩
theorem aqo.drop {f:FuncId} {args:List AV} {H:Heap} {K K':AV->Heap->Prop} (h:aqo P w0 f args H K) (hk:∀ v H',K v H'->∃ H'',Sub H'' H'/\K' v H''):aqo P w0 f args H K':=by
 refine ⟨h.1,fun w F M cargs hr hv=>(h.2 w F M cargs hr hv).mono ?_⟩
 rintro e w' ⟨v,cv,H',F',M',a,b,c,d,k⟩
 obtain ⟨H'',s,k'⟩:=hk v H' k
 exact ⟨v,cv,H'',F',M',a,b,c.sub s,d,k'⟩
theorem Post.mono {F F':Ft} {M M':Mt} {Q Q':Exit->Env->Heap->Prop} (x:Ext F F' M M') (hq:∀ e env H,Q e env H->Q' e env H) {e:Exit} {a:Act} {w:World}
  (h:Post w0 nt F' M' Q e a w):Post w0 nt F M Q' e a w:=by
 obtain ⟨env,H,F1,M1,x1,r,er,q⟩:=h
 exact ⟨env,H,F1,M1,x.trans x1,r,er,hq _ _ _ q⟩
theorem AWP.mono {c:Code} {Q Q':Exit->Env->Heap->Prop} {env:Env} {H:Heap} (h:AWP P w0 nt c Q env H) (hq:∀ e env H,Q e env H->Q' e env H):AWP P w0 nt c Q' env H:=
 fun w F M a r er=>Code.wp_mono (fun _ _ _ p=>p.mono (Ext.refl _ _) hq) (h w F M a r er)
theorem AWP.sub {c:Code} {Q:Exit->Env->Heap->Prop} {env:Env} {H H':Heap} (s:Sub H' H) (h:AWP P w0 nt c Q env H'):AWP P w0 nt c Q env H:=
 fun w F M a r er=>h w F M a (r.sub s) er
def Then (next:Env->Heap->Prop) (Q:Exit->Env->Heap->Prop):Exit->Env->Heap->Prop
 | .normal,env,H=>next env H
 | e,env,H=>Q e env H
def eqo (id:Nat) (Q:Exit->Env->Heap->Prop):Exit->Env->Heap->Prop
 | .exit id',env,H=>if id'=id then Q .normal env H else Q (.exit id') env H
 | e,env,H=>Q e env H
theorem iqy {x y:Code} {Q:Exit->Env->Heap->Prop} {env:Env} {H:Heap} (h:AWP P w0 nt x (Then (AWP P w0 nt y Q) Q) env H):AWP P w0 nt (.seq x y) Q env H:=by
 intro w F M a r er
 refine wp_seq (Code.wp_mono ?_ (h w F M a r er))
 rintro e a' w' ⟨env',H',F',M',x1,r',er',q⟩
 cases e with
 | normal=>exact Code.wp_mono (fun _ _ _ p=>p.mono x1 (fun _ _ _ q=>q)) (q w' F' M' a' r' er')
 | _=>exact ⟨env',H',F',M',x1,r',er',q⟩
theorem awp_skip {Q:Exit->Env->Heap->Prop} {env:Env} {H:Heap} (h:Q .normal env H):AWP P w0 nt .skip Q env H:=
 fun _ F M _ r er=>wp_skip ⟨env,H,F,M,Ext.refl _ _,r,er,h⟩
theorem awp_label {l:Nat} {Q:Exit->Env->Heap->Prop} {env:Env} {H:Heap} (h:Q .normal env H):AWP P w0 nt (.label l) Q env H:=
 fun _ F M _ r er=>wp_label ⟨env,H,F,M,Ext.refl _ _,r,er,h⟩
theorem awp_exit {id:Nat} {Q:Exit->Env->Heap->Prop} {env:Env} {H:Heap} (h:Q (.exit id) env H):AWP P w0 nt (.exit id) Q env H:=
 fun _ F M _ r er=>wp_exit ⟨env,H,F,M,Ext.refl _ _,r,er,h⟩
theorem aqc {Q:Exit->Env->Heap->Prop} {env:Env} {H:Heap} (h:Q .ret env H):AWP P w0 nt .ret Q env H:=
 fun _ F M _ r er=>wp_ret ⟨env,H,F,M,Ext.refl _ _,r,er,h⟩
theorem awp_block {id:Nat} {c:Code} {Q:Exit->Env->Heap->Prop} {env:Env} {H:Heap} (h:AWP P w0 nt c (eqo id Q) env H):AWP P w0 nt (.block id c) Q env H:=by
 intro w F M a r er
 refine wp_block (Code.wp_mono ?_ (h w F M a r er))
 rintro e a' w' ⟨env',H',F',M',x1,r',er',q⟩
 cases e with
 | exit id'=>
  simp only [eqo] at q
  simp only [Exit.inBlock]
  split at q
  ·rename_i e;rw [if_pos e];exact ⟨env',H',F',M',x1,r',er',q⟩
  ·rename_i e;rw [if_neg e];exact ⟨env',H',F',M',x1,r',er',q⟩
 | _=>exact ⟨env',H',F',M',x1,r',er',q⟩
def evO (env:Env):Operand->AV
 | .tmp t=>env t
 | .const v=> .sc v
 | .global g=> .sc (.pointer (some ⟨g,0,none⟩))
 | .func f=> .clo f [] []
theorem EnvR.ev {F:Ft} {M:Mt} {env:Env} {a:Act} (h:EnvR F M nt env a) (x:Operand):VR F M (evO env x) (a.eval x):=by
 cases x with
 | tmp t=>exact h.slot t
 | const v=>exact .sc v
 | global g=>exact .sc _
 | func f=>exact .clo (fun _=>undef) (fun _=>undef) rfl rfl (by simp) (by simp) (by simp) (by simp)
abbrev B (b:Bool):AV:= .sc (.bool b)
abbrev I (n:Int):AV:= .sc (.int .i64 n)
theorem VR.sc_inv {F:Ft} {M:Mt} {v cv:Value} (h:VR F M (.sc v) cv):cv=v:=by cases h;rfl
theorem awp_cond {c:Operand} {x y:Code} {Q:Exit->Env->Heap->Prop} {env:Env} {H:Heap} {t:Bool} (hc:evO env c=B t)
  (h1:t=true->AWP P w0 nt x Q env H) (h2:t=false->AWP P w0 nt y Q env H):AWP P w0 nt (.cond c x y) Q env H:=by
 intro w F M a r er
 have e:a.eval c= .bool t:=by have:=er.ev c;rw [hc] at this;exact this.sc_inv
 exact wp_cond_split e (fun ht=>h1 ht w F M a r er) (fun ht=>h2 ht w F M a r er)
theorem aqi {c:Code} {Q:Exit->Env->Heap->Prop} {env:Env} {H:Heap} (J:Env->Heap->Prop) (μ:Env->Heap->Nat) (h0:J env H)
  (round:∀ env H,J env H->AWP P w0 nt c (Then (fun env' H'=>J env' H'/\μ env' H'<μ env H) Q) env H):AWP P w0 nt (.loop c) Q env H:=by
 intro w F M a r er
 let T:Nat->Act->World->Prop:=fun n a w=>∃ env H F' M',Ext F F' M M'/\Rel w0 w F' M' H/\EnvR F' M' nt env a/\J env H/\μ env H=n
 have dec:∀ a w,Decidable (∃ n,T n a w):=fun a w=>Classical.propDecidable _
 have least:∀ a w,(∃ n,T n a w)->∃ n,T n a w/\∀ m,T m a w->n<=m:=by
  intro a w ⟨n,hn⟩
  induction n using Nat.strongRecOn with
  | _ n ih=>
   by_cases hm:∃ m,m<n/\T m a w
   ·obtain ⟨m,hlt,hT⟩:=hm;exact ih m hlt hT
   ·exact ⟨n,hn,fun m hT=>by
     rcases Nat.lt_or_ge m n with h | h
     ·exact absurd ⟨m,h,hT⟩ hm
     ·exact h⟩
 let ν:Act->World->Nat:=fun a w=>if h:∃ n,T n a w then Classical.choose (least a w h) else 0
 have hν:∀ a w,(h:∃ n,T n a w)->T (ν a w) a w/\∀ m,T m a w->ν a w<=m:=by
  intro a w h
  have:=Classical.choose_spec (least a w h)
  simp only [ν,dif_pos h]
  exact this
 refine wp_loop (fun a w=>∃ n,T n a w) ν ⟨μ env H,env,H,F,M,Ext.refl _ _,r,er,h0,rfl⟩ ?_
 intro a1 w1 hI
 obtain ⟨⟨env1,H1,F1,M1,x1,r1,er1,j1,e1⟩,_⟩:=hν a1 w1 hI
 refine Code.wp_mono ?_ (round env1 H1 j1 w1 F1 M1 a1 r1 er1)
 rintro e a' w' ⟨env',H',F',M',x',r',er',q⟩
 cases e with
 | normal=>
  have hT:T (μ env' H') a' w':=⟨env',H',F',M',x1.trans x',r',er',q.1,rfl⟩
  refine ⟨⟨_,hT⟩,?_⟩
  have:=(hν a' w' ⟨_,hT⟩).2 _ hT
  have:=q.2
  omega
 | _=>exact ⟨env',H',F',M',x1.trans x',r',er',q⟩
def wk:AV->AV
 | .sc v=>match v with
  | .slice none 0 0=> .sl [] 0
  | v=> .sc v
 | .csl c n=> .sl c n
 | .cref r o l t=> .ref r o l t
 | v=>v
theorem VR.wk {F:Ft} {M:Mt} {av:AV} {cv:Value} (h:VR F M av cv):VR F M (wk av) cv:=by
 cases h with
 | sc=>
  show VR F M (match cv with | .slice none 0 0=>AV.sl [] 0 | v=>AV.sc v) cv
  split
  ·exact .sl0
  ·exact .sc _
 | csl f hF h1 h2 ho=>exact .sl f hF (Nat.le_refl _) h1 h2 ho
 | csl0=>exact .sl0
 | cref hM hc hz=>exact .ref hM (Nat.le_refl _) hc hz
 | sl f hF hn h1 h2 ho=>exact .sl f hF hn h1 h2 ho
 | sl0=>exact .sl0
 | ref hM hl hc hz=>exact .ref hM hl hc hz
 | ptr hM=>exact .ptr hM
 | eptr f hF h1 h2 ho=>exact .eptr f hF h1 h2 ho
 | agg f hs h1 h2 ho=>exact .agg f hs h1 h2 ho
 | tup f hs h1 h2=>exact .tup f hs h1 h2
 | clo f g hs ht h1 h2 h3 h4=>exact .clo f g hs ht h1 h2 h3 h4
 | ifc h=>exact .ifc h
 | mp hM=>exact .mp hM
 | fmp hF hr hb=>exact .fmp hF hr hb
def resA (ts:List Tmp) (env:Env):AV:=
 match ts with
 | [t]=>wk (env t)
 | ts=> .tup (ts.map fun t=>wk (env t))
theorem run_results {fn:Func} (ts:List Tmp) (h:fn.results=(ts.map ResultVar.tmp).toArray) (tmps:Array Value) (P:Program) (w:World):
  (results fn tmps).run P w= .ok (if hs:ts.length=1 then tmps.getD (ts[0]'(by omega)) undef else .tuple (ts.map fun t=>tmps.getD t undef).toArray) w:=by
 unfold results
 rw [h,List.mapM_toArray]
 generalize hg:(fun (x:ResultVar)=>(match x with
   | .tmp t=>(pure (tmps.getD t undef):Sem Value)
   | .cell a t=>do loadVar t (<-asAddr (tmps.getD a undef))))=g
 have hgt:∀ t,g (.tmp t)=pure (tmps.getD t undef):=fun t=>by rw [<-hg]
 have key:∀ (l:List Tmp),(List.mapM (m:=Sem) g (l.map ResultVar.tmp)).run P w= .ok (l.map fun t=>tmps.getD t undef) w:=by
  intro l
  induction l with
  | nil=>rfl
  | cons t l ih=>simp only [List.map_cons,List.mapM_cons,Sem.run_bind,hgt,Sem.run_pure,Result.andThen_ok,ih]
 simp only [Sem.run_bind,Sem.run_map,key ts,Result.andThen_ok,Sem.run_pure]
 congr 1
 by_cases hs:ts.length=1
 ·simp [hs]
 ·simp [hs]
def eqn (ts:List Tmp) (K:AV->Heap->Prop):Exit->Env->Heap->Prop
 | .normal,env,H | .ret,env,H=>K (resA ts env) H
 | _,_,_=>False
def argEnv (args:List AV):Env:=fun i=>args.getD i (.sc undef)
theorem acalls_of {f:FuncId} {fn:Func} {c:Code} {ts:List Tmp} {args:List AV} {H:Heap} {K:AV->Heap->Prop}
  (hf:P.funcs[f]? =some fn) (hb:fn.body=some c) (ht:fn.results=(ts.map ResultVar.tmp).toArray) (hn:args.length<=fn.ntmps)
  (hc:dqq P f=true) (h:AWP P w0 fn.ntmps c (eqn ts K) (argEnv args) H):aqo P w0 f args H K:=by
 refine ⟨hc,fun w F M cargs hr hv=> ?_⟩
 have hsz:cargs.size=args.length:=by simpa using hv.1.symm
 refine calls_of_wp hf hb (Code.wp_mono ?_ (h w F M { tmps:=cargs++Array.replicate (fn.ntmps-cargs.size) undef,defers:=[] } hr ⟨by simp;omega,rfl,fun i=> ?_⟩))
 ·rintro e a w' ⟨env',H',F',M',x',r',er',q⟩
  have fin:K (resA ts env') H'->bodyPost P fn (Returns w0 F M K) .ret a w':=by
   intro k
   refine ⟨er'.defers,_,run_results ts ht a.tmps P w',resA ts env',_,H',F',M',rfl,x',r',?_,k⟩
   by_cases hs:ts.length=1
   ·obtain ⟨t,rfl⟩:∃ t,ts=[t]:=by
     cases ts with
     | nil=>simp at hs
     | cons t l=>cases l with
      | nil=>exact ⟨t,rfl⟩
      | cons _ _=>simp at hs
    exact (er'.slot t).wk
   ·rw [dif_neg hs]
    have:resA ts env'= .tup (ts.map fun t=>wk (env' t)):=by
     cases ts with
     | nil=>rfl
     | cons t l=>cases l with
      | nil=>simp at hs
      | cons _ _=>rfl
    rw [this]
    refine .tup (fun i=>((ts.map fun t=>a.tmps.getD t undef)[i]?).getD undef) (by simp) ?_ ?_
    ·intro i av hi
     have:i<ts.length:=by simpa using (List.getElem?_eq_some_iff.1 hi).1
     simp [this]
    ·intro i av hi
     have hlt:i<ts.length:=by simpa using (List.getElem?_eq_some_iff.1 hi).1
     simp [hlt] at hi ⊢
     subst hi
     simpa using (er'.slot ts[i]).wk
  cases e with
  | normal=>exact fin q
  | ret=>exact fin q
  | _=>exact q.elim
 ·simp only [argEnv]
  by_cases hi:i<args.length
  ·obtain ⟨cv,hcv,hvr⟩:=hv.get (i:=i) (av:=args[i]) (by simp [hi])
   have:i<cargs.size:=by omega
   simp [Array.getD_eq_getD_getElem?,Array.getElem?_append,this] at hcv ⊢
   subst hcv
   simpa [hi] using hvr
  ·have h1:¬i<cargs.size:=by omega
   have e1:args.getD i (.sc undef)= .sc undef:=by simp [List.getD_eq_getElem?_getD,Nat.le_of_not_lt hi]
   rw [e1]
   have e2:(cargs++Array.replicate (fn.ntmps-cargs.size) undef).getD i undef=undef:=by
    simp only [Array.getD_eq_getD_getElem?,Array.getElem?_append,h1,if_false,Array.getElem?_replicate]
    split<;>rfl
   rw [e2]
   exact .sc undef
end
end Go.Am
namespace Go.Am
open Go
section defs
variable (P:Program) (w0:World)
def slE (t:TypeId):Option TypeId:=
 match P.underlying t with
 | some (.slice e)=>some e
 | _=>none
def arE (t:TypeId):Option (Nat×TypeId):=
 match P.underlying t with
 | some (.array n e)=>some (n,e)
 | _=>none
def sz (e:TypeId):Nat:=((P.info? e).map (·.size)).getD 0
def byt (e:TypeId):Nat:=((P.info? e).map (·.bytes)).getD 0
def zer (e:TypeId):Option (List Value):=(P.info? e).bind fun i=>i.zero.map fun z=>z.cells.toList
def scal (t:TypeId):Bool:=
 match P.underlying t with
 | some (.struct _)=>false
 | some (.array _ _)=>false
 | some _=>true
 | none=>false
def aggr (t:TypeId):Bool:=
 match P.underlying t with
 | some (.struct _)=>true
 | some (.array _ _)=>true
 | _=>false
def fld (st:TypeId) (f:Nat):Option (Nat×TypeId):=
 match P.underlying st with
 | some (.struct fs)=>(fs[f]?).map fun f=>(f.offset,f.type)
 | _=>none
def bqd (t:TypeId) (i:Nat):Option (Nat×Nat):=
 match P.underlying t with
 | some (.struct fs)=>(fs[i]?).map fun f=>(f.offset,sz P f.type)
 | some (.array _ e)=>some (i*sz P e,sz P e)
 | _=>none
def aqr (t:TypeId):Bool:=
 match P.underlying t with
 | some (.interface _)=>true
 | none=>true
 | _=>false
def putK (nt:Nat) (dst:Option Tmp) (v:AV) (env:Env) (K:Env->Prop):Prop:=
 match dst with
 | some d=>d<nt/\K (upd env d v)
 | none=>K env
def setL:List AV->Nat->List AV->List AV
 | cells,_,[]=>cells
 | cells,off,v::vs=>setL (cells.set off v) (off+1) vs
def fq6 (H:Heap) (r top:Nat):Option (List AV):=
 match H r with
 | some (.arr _ _ cells n)=>if n=top then some cells else none
 | some (.box cells)=>if top=0 then some cells else none
 | _=>none
def kq4 (H:Heap) (r:Nat) (cells:List AV):Heap:=
 match H r with
 | some (.arr es e _ n)=>upd H r (some (.arr es e cells n))
 | some (.box _)=>upd H r (some (.box cells))
 | _=>H
def iqr (t:TypeId) (cells:List AV) (off:Nat) (K:AV->Prop):Prop:=
 if scal P t then (match cells[off]? with | some v=>K v | none=>False)
 else aggr P t=true/\0<sz P t/\off+sz P t<=cells.length/\K (.agg ((cells.drop off).take (sz P t)))
def i64ok (n:Int):Prop:= -9223372036854775808<=n/\n<=9223372036854775807
def jqm (k:IntKind) (n:Int) (K:AV->Prop):Prop:=
 if k= .i64 then i64ok n/\K (.sc (.int .i64 n)) else K (.sc (.int k (k.wrap n)))
def binA (op:BinOp) (x y:AV) (K:AV->Prop):Prop:=
 match x,y with
 | .sc (.int k a),.sc (.int k' b)=>
  match op with
  | .shl=>0<=b/\jqm k (a*2^(min b.toNat k.bits)) K
  | .shr=>0<=b/\K (.sc (.int k (a.fdiv (2^(min b.toNat k.bits)))))
  | _=>k=k'/\
   match op with
   | .add=>jqm k (a+b) K
   | .sub=>jqm k (a-b) K
   | .mul=>jqm k (a*b) K
   | .quo=>b≠0/\jqm k (a.tdiv b) K
   | .rem=>b≠0/\K (.sc (.int k (a.tmod b)))
   | .eql=>K (B (decide (a=b)))
   | .neq=>K (B (!decide (a=b)))
   | .lss=>K (B (decide (a<b)))
   | .leq=>K (B (decide (a<=b)))
   | .gtr=>K (B (decide (b<a)))
   | .geq=>K (B (decide (b<=a)))
   | .and=>K (.sc (.int k (k.wrap ((BitVec.ofInt k.bits a)&&&(BitVec.ofInt k.bits b)).toNat)))
   | .or=>K (.sc (.int k (k.wrap ((BitVec.ofInt k.bits a) ||| (BitVec.ofInt k.bits b)).toNat)))
   | .xor=>K (.sc (.int k (k.wrap ((BitVec.ofInt k.bits a) ^^^ (BitVec.ofInt k.bits b)).toNat)))
   | _=>False
 | _,_=>False
def dq6 (H:Heap) (x:AV) (es:Nat) (lo hi:Nat) (clip full:Bool) (K:AV->Prop):Prop:=
 match x with
 | .sl cells n | .csl cells n=>lo<=hi/\hi<=n/\(full=true->cells.length=n*es/\hi=n)/\
   (let cs:=if full then cells.drop (lo*es) else (cells.drop (lo*es)).take ((hi-lo)*es)
    K (if clip then .csl cs (hi-lo) else .sl cs (hi-lo)))
 | .ref r off n top | .cref r off n top=>lo<=hi/\hi<=n/\
   match H r with
   | some (.arr es' _ _ n')=>n'=top/\es'=es/\K (if clip then .cref r (off+lo) (hi-lo) top else .ref r (off+lo) (hi-lo) top)
   | _=>False
 | .sc (.slice none 0 0)=>lo=0/\hi=0/\K (.sc (.slice none 0 0))
 | _=>False
def gqi:AV->Option Nat
 | .sl _ n=>some n
 | .csl _ n=>some n
 | .ref _ _ n _=>some n
 | .cref _ _ n _=>some n
 | .sc (.slice none 0 0)=>some 0
 | _=>none
def dqy (H:Heap) (es:Nat):AV->Option (List AV)
 | .sl cells n=>if n*es<=cells.length then some (cells.take (n*es)) else none
 | .csl cells n=>if n*es<=cells.length then some (cells.take (n*es)) else none
 | .ref r off n top=>match H r with
  | some (.arr es' _ cells n')=>if n'=top/\es'=es/\(off+n)*es<=cells.length then some ((cells.drop (off*es)).take (n*es)) else none
  | _=>none
 | .cref r off n top=>match H r with
  | some (.arr es' _ cells n')=>if n'=top/\es'=es/\(off+n)*es<=cells.length then some ((cells.drop (off*es)).take (n*es)) else none
  | _=>none
 | .sc (.slice none 0 0)=>some []
 | _=>none
end defs
section
variable {P:Program} {w0:World} {nt:Nat}
theorem dq7 {t e:TypeId} (h:slE P t=some e):P.underlying t=some (.slice e):=by
 unfold slE at h
 split at h
 ·cases h;assumption
 ·cases h
theorem arE_eq {t e:TypeId} {n:Nat} (h:arE P t=some (n,e)):P.underlying t=some (.array n e):=by
 unfold arE at h
 split at h
 ·cases h;assumption
 ·cases h
theorem jq5 {e:TypeId} (h:0<sz P e):∃ i,P.info? e=some i/\i.size=sz P e/\i.bytes=byt P e:=by
 unfold sz byt at *
 cases hi:P.info? e with
 | none=>simp [hi] at h
 | some i=>exact ⟨i,rfl,by simp,by simp⟩
theorem jqy {e:TypeId} {zs:List Value} (h:zer P e=some zs):∃ i z,P.info? e=some i/\i.zero=some z/\z.cells.toList=zs:=by
 unfold zer at h
 cases hi:P.info? e with
 | none=>simp [hi] at h
 | some i=>
  cases hz:i.zero with
  | none=>simp [hi,hz] at h
  | some z=>simp [hi,hz] at h;exact ⟨i,z,rfl,hz,h⟩
theorem gqk {t:TypeId} (h:scal P t=true) (w:World):(isAgg t).run P w= .ok false w:=by
 unfold scal at h
 split at h<;>try (cases h;done)
 rename_i d hns hna hd
 have hu:=run_underlying hd
 unfold isAgg
 simp only [Sem.run_bind,hu,Result.andThen_ok]
 cases d with
 | struct fs=>exact absurd rfl (hns fs)
 | array n e=>exact absurd rfl (hna n e)
 | _=>rfl
theorem gql {t:TypeId} (h:aggr P t=true) (w:World):(isAgg t).run P w= .ok true w:=by
 unfold aggr at h
 split at h<;>try (cases h;done)
 ·rename_i hd;simp [isAgg,run_underlying hd]
 ·rename_i hd;simp [isAgg,run_underlying hd]
theorem cqe (g o n:Nat):(⟨g,o,none⟩:Addr).add n=⟨g,o+n,none⟩:=by
 unfold Addr.add;split<;>simp_all
def OpOK (P:Program) (w0:World) (nt:Nat) (o:Oper) (env:Env) (H:Heap) (K:Env->Heap->Prop):Prop:=
 ∀ w F M a,Rel w0 w F M H->EnvR F M nt env a->∀ (next:Act->World->Prop) (Q:Exit->Act->World->Prop),
  (∀ env' H' F' M' a' w',Ext F F' M M'->Rel w0 w' F' M' H'->EnvR F' M' nt env' a'->K env' H'->next a' w')->o.wp P a w next Q
theorem op_value {o:Oper} {a:Act} {w w':World} {cv:Value} {next:Act->World->Prop} {Q:Exit->Act->World->Prop}
  (hrun:(execOp a.eval o).run P w= .ok (.value cv) w') (h:next (a.put o.dst cv) w'):o.wp P a w next Q:=by
 unfold Oper.wp;rw [hrun];exact h
theorem op_skip {o:Oper} {a:Act} {w w':World} {next:Act->World->Prop} {Q:Exit->Act->World->Prop}
  (hrun:(execOp a.eval o).run P w= .ok .skip w') (h:next (a.put o.dst undef) w'):o.wp P a w next Q:=by
 unfold Oper.wp;rw [hrun];exact h
theorem kqc {F:Ft} {M:Mt} {env:Env} {a:Act} {dst:Option Tmp} {v:AV} {cv:Value} {K:Env->Prop} (er:EnvR F M nt env a) (hv:VR F M v cv)
  (h:putK nt dst v env K):∃ env',EnvR F M nt env' (a.put dst cv)/\K env':=by
 cases dst with
 | none=>exact ⟨env,er,h⟩
 | some d=>exact ⟨_,er.put h.1 hv,h.2⟩
theorem op_pure {o:Oper} {env:Env} {H:Heap} {K:Env->Heap->Prop} (v:AV)
  (hrun:∀ w F M a,Rel w0 w F M H->EnvR F M nt env a->∃ cv,(execOp a.eval o).run P w= .ok (.value cv) w/\VR F M v cv)
  (h:putK nt o.dst v env (fun env'=>K env' H)):OpOK P w0 nt o env H K:=by
 intro w F M a r er next Q hn
 obtain ⟨cv,hr,hv⟩:=hrun w F M a r er
 obtain ⟨env',er',k⟩:=kqc er hv h
 exact op_value hr (hn env' H F M _ _ (Ext.refl _ _) r er' k)
theorem bq6 {o:Oper} {env:Env} {H:Heap} {K:Env->Heap->Prop}
  (hrun:∀ w F M a,Rel w0 w F M H->EnvR F M nt env a->∃ cv w' v H' F' M',(execOp a.eval o).run P w= .ok (.value cv) w'/\Ext F F' M M'/\Rel w0 w' F' M' H'/\VR F' M' v cv/\
   putK nt o.dst v env (fun env'=>K env' H')):OpOK P w0 nt o env H K:=by
 intro w F M a r er next Q hn
 obtain ⟨cv,w',v,H',F',M',hr,x,r',hv,h⟩:=hrun w F M a r er
 obtain ⟨env',er',k⟩:=kqc (er.mono x) hv h
 exact op_value hr (hn env' H' F' M' _ _ x r' er' k)
theorem iq7 {o:Oper} {env:Env} {H:Heap} {K:Env->Heap->Prop}
  (hrun:∀ w F M a,Rel w0 w F M H->EnvR F M nt env a->∃ w' H' F' M',(execOp a.eval o).run P w= .ok .skip w'/\Ext F F' M M'/\Rel w0 w' F' M' H'/\
   putK nt o.dst (.sc undef) env (fun env'=>K env' H')):OpOK P w0 nt o env H K:=by
 intro w F M a r er next Q hn
 obtain ⟨w',H',F',M',hr,x,r',h⟩:=hrun w F M a r er
 obtain ⟨env',er',k⟩:=kqc (er.mono x) (.sc undef) h
 exact op_skip hr (hn env' H' F' M' _ _ x r' er' k)
theorem eq5 (vs:List AV):∀ (cells:List AV) (off:Nat),(setL cells off vs).length=cells.length:=by
 induction vs with
 | nil=>intros;rfl
 | cons v vs ih=>intro cells off;simp [setL,ih]
theorem setL_get (vs:List AV):∀ (cells:List AV) (off:Nat),off+vs.length<=cells.length->∀ (i:Nat),
  (setL cells off vs)[i]? =if off<=i/\i<off+vs.length then vs[i-off]? else cells[i]? :=by
 induction vs with
 | nil=>intro cells off _ i;simp [setL];intro h1 h2;omega
 | cons v vs ih=>
  intro cells off h i
  simp only [List.length_cons] at h
  rw [setL,ih _ _ (by simp;omega)]
  by_cases h1:i=off
  ·subst h1
   have:i<cells.length:=by omega
   have hn:¬(i+1<=i/\i<i+1+vs.length):=by omega
   have hp:i<=i/\i<i+(v::vs).length:=by simp
   rw [if_neg hn,if_pos hp]
   simp [this]
  ·by_cases h2:off+1<=i/\i<off+1+vs.length
   ·have h3:off<=i/\i<off+(v::vs).length:=by simp;omega
    rw [if_pos h2,if_pos h3]
    obtain ⟨j,hj⟩:∃ j,i-off=j+1:=⟨i-off-1,by omega⟩
    have:i-(off+1)=j:=by omega
    rw [hj,this];simp
   ·have h3:¬(off<=i/\i<off+(v::vs).length):=by simp;omega
    rw [if_neg h2,if_neg h3,List.getElem?_set]
    rw [if_neg (fun e=>h1 e.symm)]
theorem VRC.setL {F:Ft} {M:Mt} {cells vs:List AV} {cs:Array Value} {cvs:List Value} {o off:Nat} (h:VRC F M cells cs o) (hv:VRL F M vs cvs) (h1:∀ (i:Nat) (x:AV),vs[i]? =some x->x.one=true)
  (hl:off+vs.length<=cells.length) (hs:o+cells.length<=cs.size):
  VRC F M (setL cells off vs) (cs.toList.take (o+off)++cvs++cs.toList.drop (o+off+cvs.length)).toArray o:=by
 intro i av hi
 rw [setL_get _ _ _ hl] at hi
 have hlen:=hv.1
 have htk:(cs.toList.take (o+off)).length=o+off:=by simp;omega
 by_cases hc:off<=i/\i<off+vs.length
 ·rw [if_pos hc] at hi
  obtain ⟨cv,hcv,hvr⟩:=hv.get hi
  refine ⟨h1 _ _ hi,cv,?_,hvr⟩
  simp only [List.getElem?_toArray,List.append_assoc]
  rw [List.getElem?_append_right (by omega),htk,List.getElem?_append_left (by omega)]
  rw [<-hcv];congr 1;omega
 ·rw [if_neg hc] at hi
  obtain ⟨h2,cv,hcv,hvr⟩:=h i av hi
  refine ⟨h2,cv,?_,hvr⟩
  have hil:i<cells.length:=(List.getElem?_eq_some_iff.1 hi).1
  simp only [List.getElem?_toArray,List.append_assoc]
  rcases Nat.lt_or_ge i off with hlt | hge
  ·rw [List.getElem?_append_left (by omega),List.getElem?_take,if_pos (by omega)];simpa using hcv
  ·have:off+vs.length<=i:=by omega
   rw [List.getElem?_append_right (by omega),htk,List.getElem?_append_right (by omega),List.getElem?_drop,<-hcv]
   simp only [Array.getElem?_toList];congr 1;omega
theorem cell_of {w:World} {g i:Nat} {cs:Array Value} {e:TypeId} {fz:Nat×Nat} {cv:Value} (hg:w.heap[g]? =some (.cells cs e fz)) (h:cs[i]? =some cv):w.cell? ⟨g,i,none⟩=some cv:=by
 rw [cell_of_row w g i cs e fz hg,h]
theorem jqh {t:TypeId} (h:scal P t=true) {w:World} {g i:Nat} {cs:Array Value} {e:TypeId} {fz:Nat×Nat} {cv:Value} (hg:w.heap[g]? =some (.cells cs e fz)) (hc:cs[i]? =some cv):
  (loadVar t ⟨g,i,none⟩).run P w= .ok cv w:=by
 unfold loadVar
 simp only [Sem.run_bind,gqk h,Result.andThen_ok,Bool.false_eq_true,if_false,run_load,cell_of hg hc]
theorem jqi {t:TypeId} (h:aggr P t=true) (hz:0<sz P t) {w:World} {g i:Nat} {cs:Array Value} {e:TypeId} {fz:Nat×Nat} (hg:w.heap[g]? =some (.cells cs e fz)) (hl:i+sz P t<=cs.size):
  (loadVar t ⟨g,i,none⟩).run P w= .ok (.agg (cs.extract i (i+sz P t))) w:=by
 obtain ⟨inf,hi,hs,_⟩:=jq5 hz
 have hl':(loadCells ⟨g,i,none⟩ (sz P t)).run P w= .ok (cs.extract i (i+sz P t)) w:=by
  have hcell:∀ j,j<sz P t->w.cell? ((⟨g,i,none⟩:Addr).add j)=some (cs.getD (i+j) undef):=by
   intro j hj
   rw [cqe]
   have:i+j<cs.size:=by omega
   exact cell_of hg (by simp [this])
  rw [run_loadCells (P:=P) w ⟨g,i,none⟩ (sz P t) (fun j=>cs.getD (i+j) undef) hcell]
  congr 1
  apply Array.ext
  ·simp;omega
  ·intro j h1 h2
   simp at h1 h2
   have:i+j<cs.size:=by omega
   simp [this]
 have hso:(sizeOf t).run P w= .ok (sz P t) w:=by simp [sizeOf,typeInfo,hi,hs]
 unfold loadVar
 simp only [Sem.run_bind,gql h,Result.andThen_ok,if_true,hso,hl',Sem.run_pure]
theorem gqc {F:Ft} {M:Mt} {w:World} {t:TypeId} {cells:List AV} {off g o:Nat} {cs:Array Value} {e:TypeId} {fz:Nat×Nat} {K:AV->Prop}
  (hg:w.heap[g]? =some (.cells cs e fz)) (hc:VRC F M cells cs o) (h:iqr P t cells off K):
  ∃ v cv,(loadVar t ⟨g,o+off,none⟩).run P w= .ok cv w/\VR F M v cv/\K v:=by
 unfold iqr at h
 split at h
 ·rename_i hs
  split at h
  ·rename_i v hv
   obtain ⟨_,cv,hcv,hvr⟩:=hc off v hv
   exact ⟨v,cv,jqh hs hg hcv,hvr,h⟩
  ·exact h.elim
 ·obtain ⟨ha,hz,hl,k⟩:=h
  have hsz:o+off+sz P t<=cs.size:=by
   obtain ⟨_,cv,hcv,_⟩:=hc (off+sz P t-1) cells[off+sz P t-1] (by simp)
   have:=(Array.getElem?_eq_some_iff.1 hcv).1
   omega
  refine ⟨_,_,jqi ha hz hg hsz,.agg (fun i=>(cs[o+off+i]?).getD undef) (by simp;omega) ?_ ?_ ?_,k⟩
  ·intro i av hi
   rw [List.getElem?_take] at hi
   split at hi
   ·rename_i hlt
    have h1:o+off+i<cs.size:=by omega
    rw [Array.getElem?_extract]
    rw [if_pos (by omega)]
    simp [h1]
   ·cases hi
  ·intro i av hi
   rw [List.getElem?_take] at hi
   split at hi
   ·rw [List.getElem?_drop] at hi
    obtain ⟨_,cv,hcv,hvr⟩:=hc _ _ hi
    have e1:o+off+i=o+(off+i):=by omega
    simpa [e1,hcv] using hvr
   ·cases hi
  ·intro i av hi
   rw [List.getElem?_take] at hi
   split at hi
   ·rw [List.getElem?_drop] at hi
    exact (hc _ _ hi).1
   ·cases hi
end
end Go.Am
namespace Go.Am
open Go
section
variable {P:Program} {w0:World} {nt:Nat}
theorem kqw {H:Heap} {r top:Nat} {cells:List AV} (h:fq6 H r top=some cells):
  ∃ k,H r=some k/\k.gen=top/\((∃ es e,k= .arr es e cells top)\/k= .box cells):=by
 unfold fq6 at h
 split at h
 ·rename_i es e c n hk
  split at h
  ·rename_i e1;cases h;subst e1;exact ⟨_,hk,rfl,.inl ⟨es,e,rfl⟩⟩
  ·cases h
 ·rename_i c hk
  split at h
  ·rename_i e1;cases h;subst e1;exact ⟨_,hk,rfl,.inr rfl⟩
  ·cases h
 ·cases h
theorem Rel.row {w:World} {F:Ft} {M:Mt} {H:Heap} (h:Rel w0 w F M H) {r top:Nat} {cells:List AV} (hc:fq6 H r top=some cells) (hp:0<cells.length):
  ∃ k g o cs e cap es,H r=some k/\k.gen=top/\Owns M r k g/\M r top=some (some ⟨g,o,none⟩,cap,es)/\w.heap[g]? =some (.cells cs e (0,0))/\
   VRC F M cells cs o/\o+cells.length<=cs.size/\((∃ es e,k= .arr es e cells top)\/k= .box cells):=by
 obtain ⟨k,hk,hgen,hor⟩:=kqw hc
 have hb:=h.blk r k hk
 rcases hor with ⟨es,e,rfl⟩ | rfl
 ·obtain ⟨h1,h2,a,cap,h3,h4,h5,h6⟩:=hb
  have hn:0<top:=by
   rcases Nat.eq_zero_or_pos top with e1 | e1
   ·subst e1;rw [Nat.zero_mul] at h1;omega
   ·exact e1
  rcases h6 with h6 | ⟨g,o,cs,rfl,h7,h8,h9,h10⟩
  ·omega
  ·refine ⟨_,g,o,cs,e,cap,es,hk,rfl,⟨o,cap,es,h3,fun _=>by omega⟩,h3,h8,h10,?_,.inl ⟨es,e,rfl⟩⟩
   have:top*es<=cap*es:=Nat.mul_le_mul_right _ h4
   omega
 ·obtain ⟨g,cs,e,h1,h2,h3,h4,h5⟩:=hb
  simp only [Blk.gen] at hgen
  subst hgen
  exact ⟨_,g,0,cs,e,1,1,hk,rfl,⟨0,1,1,h1,fun h=>by simp [Blk.isArr] at h⟩,h1,h3,h5,by omega,.inr rfl⟩
theorem VR.ptr_inv {F:Ft} {M:Mt} {r top off:Nat} {cv:Value} (h:VR F M (.ptr r top off) cv):∃ g o cap es,M r top=some (some ⟨g,o,none⟩,cap,es)/\cv= .pointer (some ⟨g,o+off,none⟩):=by
 cases h with
 | ptr hM=>exact ⟨_,_,_,_,hM,rfl⟩
theorem VR.eptr_inv {F:Ft} {M:Mt} {cells:List AV} {off:Nat} {cv:Value} (h:VR F M (.eptr cells off) cv):
  ∃ b o cs e fz,F b=some (.cells cs e fz)/\VRC F M cells cs o/\cv= .pointer (some ⟨b,o+off,none⟩):=by
 cases h with
 | eptr f hF h1 h2 ho=>exact ⟨_,_,_,_,_,hF,VRC.of h1 h2 ho,rfl⟩
def jqk (P:Program) (H:Heap) (t:TypeId) (a:AV) (K:AV->Prop):Prop:=
 match a with
 | .eptr cells off=>iqr P t cells off K
 | .ptr r top off=>match fq6 H r top with
  | some cells=>iqr P t cells off K
  | none=>False
 | _=>False
theorem loadV_pos {t:TypeId} {cells:List AV} {off:Nat} {K:AV->Prop} (h:iqr P t cells off K):0<cells.length:=by
 unfold iqr at h
 split at h
 ·split at h
  ·rename_i v hv
   have:=(List.getElem?_eq_some_iff.1 hv).1
   omega
  ·exact h.elim
 ·obtain ⟨_,h1,h2,_⟩:=h;omega
theorem ok_load {o:Oper} {env:Env} {H:Heap} {K:Env->Heap->Prop} {t:TypeId} {x:Operand} (ho:o.op= .load t x)
  (h:jqk P H t (evO env x) (fun v=>putK nt o.dst v env (fun env'=>K env' H))):OpOK P w0 nt o env H K:=by
 refine bq6 fun w F M a r er=> ?_
 have hx:=er.ev x
 revert h hx
 generalize evO env x=av
 intro h hx
 unfold jqk at h
 split at h
 ·rename_i cells off
  obtain ⟨b,oo,cs,e,fz,hF,hC,hcv⟩:=hx.eptr_inv
  obtain ⟨v,cv,hr,hv,k⟩:=gqc (r.hF _ _ hF) hC h
  exact ⟨cv,w,v,H,F,M,by simp [execOp,ho,hcv,Instr.loadAt,Instr.sureAddr,hr],Ext.refl _ _,r,hv,k⟩
 ·rename_i rr top off
  split at h
  ·rename_i cells hcells
   obtain ⟨g,oo,cap,es,hM,hcv⟩:=hx.ptr_inv
   obtain ⟨k',g',oo',cs,e,cap',es',hk,hgen,how,hM',hg,hC,hl,hor⟩:=r.row hcells (loadV_pos h)
   rw [hM] at hM';cases hM'
   obtain ⟨v,cv,hr,hv,k⟩:=gqc hg hC h
   exact ⟨cv,w,v,H,F,M,by simp [execOp,ho,hcv,Instr.loadAt,Instr.sureAddr,hr],Ext.refl _ _,r,hv,k⟩
  ·exact h.elim
 ·exact h.elim
def storeK (P:Program) (H:Heap) (t:TypeId) (a x:AV) (K:Heap->Prop):Prop:=
 match a with
 | .ptr r top off=>match fq6 H r top with
  | some cells=>0<sz P t/\x.cells.length=sz P t/\x.cellsOne/\off+x.cells.length<=cells.length/\K (kq4 H r (setL cells off x.cells))
  | none=>False
 | _=>False
theorem setAt_eq {H:Heap} {r top:Nat} {cells cells':List AV} {k:Blk} (hk:H r=some k) (hor:(∃ es e,k= .arr es e cells top)\/k= .box cells):
  ∃ k',kq4 H r cells'=upd H r (some k')/\k'.gen=k.gen/\k'.isArr=k.isArr/\((∃ es e,k= .arr es e cells top/\k'= .arr es e cells' top)\/(k= .box cells/\k'= .box cells')):=by
 rcases hor with ⟨es,e,rfl⟩ | rfl
 ·exact ⟨.arr es e cells' top,by simp [kq4,hk],rfl,rfl,.inl ⟨es,e,rfl,rfl⟩⟩
 ·exact ⟨.box cells',by simp [kq4,hk],rfl,rfl,.inr ⟨rfl,rfl⟩⟩
theorem bqk {α:Type} (H:Nat->Option α) (r:Nat) (k:Option α):upd (upd H r none) r k=upd H r k:=aqx H r none k
theorem Rel.write {w:World} {F:Ft} {M:Mt} {H:Heap} (h:Rel w0 w F M H) {r top:Nat} {cells cells':List AV} {k:Blk} {g o cap es:Nat} {cs cs':Array Value} {e:TypeId}
  (hk:H r=some k) (hgen:k.gen=top) (how:Owns M r k g) (hM:M r top=some (some ⟨g,o,none⟩,cap,es)) (hg:w.heap[g]? =some (.cells cs e (0,0)))
  (hor:(∃ es e,k= .arr es e cells top)\/k= .box cells) (hlen:cells'.length=cells.length) (hsz:cs'.size=cs.size) (hC:VRC F M cells' cs' o):
  Rel w0 (w.setRow g cs') F M (kq4 H r cells'):=by
 obtain ⟨k',he,hg',ha',hkk⟩:=setAt_eq (cells':=cells') hk hor
 have hheap:=setRow_heap w g cs cs' e (0,0) hg
 rw [he,<-bqk]
 refine (h.step (w':=w.setRow g cs') (M':=M) r r k' rfl rfl rfl ?_ (fun s t=> .inl rfl) (fun x hx=>hx) (.inl rfl) ?_ ?_ ?_).2
 ·intro b hb hno
  refine setRow_other w g b cs' fun e=> ?_
  subst e;exact hno k hk how
 ·have hb:=h.blk r k hk
  rcases hkk with ⟨es',e',rfl,rfl⟩ | ⟨rfl,rfl⟩
  ·obtain ⟨h1,h2,a,cap',h3,h4,h5,h6⟩:=hb
   simp only [Blk.gen] at hgen
   rw [hM] at h3;cases h3
   refine ⟨hlen.trans h1,h2,_,_,hM,h4,h5,?_⟩
   rcases h6 with h6 | ⟨g',o',cs0,e0,h7,h8,h9,h10⟩
   ·exact .inl h6
   ·cases e0
    rw [hg] at h8;cases h8
    exact .inr ⟨g,o,cs',rfl,h7,hheap,by rw [hsz];exact h9,hC⟩
  ·obtain ⟨g',cs0,e',h1,h2,h3,h4,h5⟩:=hb
   simp only [Blk.gen] at hgen
   subst hgen
   rw [hM] at h1;cases h1
   rw [hg] at h3;cases h3
   exact ⟨g,cs',e,hM,h2,hheap,by rw [hsz,hlen];exact h4,hC⟩
 ·intro g' ⟨o',cap',es',hm,hc⟩
  rw [hg'] at hm;rw [ha'] at hc
  exact .inr ⟨k,hk,o',cap',es',hm,hc⟩
 ·intro t ht
  rw [hg'] at ht
  exact h.gens r k hk t ht
theorem aq0 {t:TypeId} (h:0<sz P t) (w:World):(sizeOf t).run P w= .ok (sz P t) w:=by
 obtain ⟨inf,hi,hs,_⟩:=jq5 h
 simp [sizeOf,typeInfo,hi,hs]
theorem kqe {F:Ft} {M:Mt} {vs:List AV} {cvs:List Value} (hv:VRL F M vs cvs) (h1:∀ (i:Nat) (x:AV),vs[i]? =some x->x.one=true):∀ v∈cvs,v.oneCell'=true:=by
 intro v hv'
 obtain ⟨i,hi,he⟩:=List.mem_iff_getElem.1 hv'
 have hlt:i<vs.length:=by rw [hv.1];exact hi
 have hvr:=hv.2 i vs[i] v (by simp [hlt]) (by simp [hi,he])
 rw [<-hvr.one]
 exact h1 i vs[i] (by simp [hlt])
theorem VR.cellsVRL {F:Ft} {M:Mt} {av:AV} {cv:Value} (h:VR F M av cv) (hc:av.cellsOne):VRL F M av.cells cv.cells.toList:=by
 apply h.cellsL
 intro v e
 subst e
 exact hc
theorem ok_store {o:Oper} {env:Env} {H:Heap} {K:Env->Heap->Prop} {t:TypeId} {x y:Operand} (ho:o.op= .store t x y)
  (h:storeK P H t (evO env x) (evO env y) (fun H'=>putK nt o.dst (.sc undef) env (fun env'=>K env' H'))):OpOK P w0 nt o env H K:=by
 refine iq7 fun w F M a r er=> ?_
 have hx:=er.ev x
 have hy:=er.ev y
 revert h hx hy
 generalize evO env x=av
 generalize evO env y=bv
 intro h hx hy
 unfold storeK at h
 split at h
 ·rename_i rr top off
  split at h
  ·rename_i cells hcells
   obtain ⟨hz,hlen,hone,hfit,k⟩:=h
   obtain ⟨g,oo,cap,es,hM,hcv⟩:=hx.ptr_inv
   obtain ⟨k',g',oo',cs,e,cap',es',hk,hgen,how,hM',hg,hC,hl,hor⟩:=r.row hcells (by omega)
   rw [hM] at hM';cases hM'
   have hvl:=hy.cellsVRL hone
   have hone':=hy.cellsOne' hone
   have hcl:(a.eval y).cells.toList.length=bv.cells.length:=hvl.1.symm
   have hcl':(a.eval y).cells.size=bv.cells.length:=by simpa using hcl
   have hrun:=run_storeCells_at P g (oo+off) e (a.eval y).cells.toList 0 cs w hg (by rw [hcl];omega) (kqe hvl hone')
   have hrel:=r.write (cells':=setL cells off bv.cells) (cs':=(cs.toList.take (oo+off)++(a.eval y).cells.toList++cs.toList.drop (oo+off+(a.eval y).cells.toList.length)).toArray)
    hk hgen how hM hg hor (eq5 _ _ _) (by simp;omega) (VRC.setL hC hvl hone' hfit (by omega))
   refine ⟨_,_,F,M,?_,Ext.refl _ _,hrel,k⟩
   have hne:¬((a.eval y).cells.size≠sz P t):=by rw [hcl',hlen];simp
   simp only [execOp,ho,hcv,Instr.storeAt,Instr.sureAddr,storeVar,Sem.run_bind,Sem.run_pure,Result.andThen_ok,aq0 hz,hne,if_false,Nat.add_zero] at hrun ⊢
   rw [hrun]
   rfl
  ·exact h.elim
 ·exact h.elim
theorem Rel.newBox {w:World} {F:Ft} {M:Mt} {H:Heap} (h:Rel w0 w F M H) (cells:List AV) (cs:Array Value) (e:TypeId) (hC:VRC F M cells cs 0) (hs:cs.size=cells.length):
  ∃ r M',H r=none/\Ext F F M M'/\Rel w0 (w.alloc (.cells cs e)) F M' (upd H r (some (.box cells)))/\M' r 0=some (some ⟨w.heap.size,0,none⟩,1,1):=by
 obtain ⟨N,hN⟩:=h.fresh
 have hH:=(hN N (Nat.le_refl _)).1
 have hMN:=(hN N (Nat.le_refl _)).2
 let M':Mt:=fun s t=>if s=N/\t=0 then some (some ⟨w.heap.size,0,none⟩,1,1) else M s t
 have hM':M' N 0=some (some ⟨w.heap.size,0,none⟩,1,1):=by simp [M']
 have hx:Ext F F M M':=⟨fun _ _ h=>h,fun s t y hy=>by
  simp only [M']
  split
  ·rename_i e;rw [e.1,hMN] at hy;cases hy
  ·exact hy⟩
 have hnew:(w.alloc (.cells cs e)).heap[w.heap.size]? =some (.cells cs e):=kqs w _
 have st:=h.step (w':=w.alloc (.cells cs e)) (M':=M') N N (.box cells) rfl rfl rfl
  (fun b hb _=>kqr w _ b hb) (fun s t=>by
   simp only [M',Blk.gen]
   by_cases e:s=N/\t=0
   ·exact .inr e
   ·simp [e]) (fun x hx'=>by simp only [Blk.gen] at hx';rw [hMN] at hx';cases hx') (.inl rfl)
  ⟨w.heap.size,cs,e,hM',h.F_none (Nat.le_refl _),hnew,hs,hC.mono hx⟩
  (fun g ⟨o,cap,es,hm,_⟩=>by simp only [Blk.gen] at hm;rw [hM'] at hm;cases hm;exact .inl (Nat.le_refl _))
  (fun t _=>hMN t)
 rw [bqk] at st
 exact ⟨N,M',hH,st.1,st.2,hM'⟩
def gq9 (zs:List Value):List AV:=zs.map .sc
theorem mqi (F:Ft) (M:Mt) {zs:List Value} (h:zs.all Value.oneCell'=true):VRC F M (gq9 zs) zs.toArray 0:=by
 intro i av hi
 simp only [gq9,List.getElem?_map] at hi
 cases hz:zs[i]? with
 | none=>simp [hz] at hi
 | some z=>
  simp [hz] at hi
  subst hi
  refine ⟨?_,z,by simpa using hz,.sc z⟩
  have:z∈zs:=List.mem_of_getElem? hz
  exact List.all_eq_true.1 h z this
def gqq (P:Program) (H:Heap) (t:TypeId) (K:AV->Heap->Prop):Prop:=
 match zer P t with
 | some zs=>zs.all Value.oneCell'=true/\∀ r,H r=none->K (.ptr r 0 0) (upd H r (some (.box (gq9 zs))))
 | none=>False
theorem ok_alloc {o:Oper} {env:Env} {H:Heap} {K:Env->Heap->Prop} {t:TypeId} (ho:o.op= .alloc t)
  (h:gqq P H t (fun v H'=>putK nt o.dst v env (fun env'=>K env' H'))):OpOK P w0 nt o env H K:=by
 refine bq6 fun w F M a r er=> ?_
 unfold gqq at h
 split at h
 ·rename_i zs hz
  obtain ⟨i,z,hi,hzz,hcs⟩:=jqy hz
  obtain ⟨hone,k⟩:=h
  obtain ⟨rr,M',hr,hx,hrel,hM'⟩:=r.newBox (gq9 zs) zs.toArray t (mqi F M hone) (by simp [gq9])
  refine ⟨_,_,.ptr rr 0 0,_,F,M',?_,hx,hrel,.ptr hM',k rr hr⟩
  have hzc:z.cells=zs.toArray:=by rw [<-hcs]
  simp [execOp,ho,Instr.alloc,zeroValue,typeInfo,hi,hzz,newVar,newRow,hzc]
 ·exact h.elim
def boxK (H:Heap) (x:AV) (K:AV->Heap->Prop):Prop:=
 x.cellsOne/\∀ r,H r=none->K (.ptr r 0 0) (upd H r (some (.box x.cells)))
theorem ok_box {o:Oper} {env:Env} {H:Heap} {K:Env->Heap->Prop} {t:TypeId} {x:Operand} (ho:o.op= .box t x)
  (h:boxK H (evO env x) (fun v H'=>putK nt o.dst v env (fun env'=>K env' H'))):OpOK P w0 nt o env H K:=by
 refine bq6 fun w F M a r er=> ?_
 have hx:=er.ev x
 obtain ⟨hone,k⟩:=h
 obtain ⟨rr,M',hr,hxx,hrel,hM'⟩:=r.newBox (evO env x).cells (a.eval x).cells t (hx.cellsC hone) (hx.cellsSize hone)
 exact ⟨_,_,.ptr rr 0 0,_,F,M',by simp [execOp,ho,Instr.box,newVar,newRow],hxx,hrel,.ptr hM',k rr hr⟩
theorem ok_move {o:Oper} {env:Env} {H:Heap} {K:Env->Heap->Prop} {x:Operand} (ho:o.op= .move x\/o.op= .assign x)
  (h:putK nt o.dst (evO env x) env (fun env'=>K env' H)):OpOK P w0 nt o env H K:=
 op_pure (evO env x) (fun w F M a r er=>⟨a.eval x,by rcases ho with ho | ho<;>simp [execOp,ho],er.ev x⟩) h
theorem ok_pick {o:Oper} {env:Env} {H:Heap} {K:Env->Heap->Prop} {c x y:Operand} {t:Bool} (ho:o.op= .pick c x y) (hc:evO env c=B t)
  (h:putK nt o.dst (if t then evO env x else evO env y) env (fun env'=>K env' H)):OpOK P w0 nt o env H K:=
 op_pure _ (fun w F M a r er=>⟨if t then a.eval x else a.eval y,by
  have e:a.eval c= .bool t:=by have:=er.ev c;rw [hc] at this;exact this.sc_inv
  simp [execOp,ho,e,asBool],by cases t<;>first | exact er.ev x | exact er.ev y⟩) h
theorem gqw {o:Oper} {env:Env} {H:Heap} {K:Env->Heap->Prop} {x:Operand} (ho:o.op= .nilCheck x)
  (hp:(∃ r t f,evO env x= .ptr r t f)\/(∃ c f,evO env x= .eptr c f)\/(∃ f c d,evO env x= .clo f c d))
  (h:putK nt o.dst (evO env x) env (fun env'=>K env' H)):OpOK P w0 nt o env H K:=by
 refine op_pure _ (fun w F M a r er=>⟨a.eval x,?_,er.ev x⟩) h
 have hx:=er.ev x
 rcases hp with ⟨r,t,f,e⟩ | ⟨c,f,e⟩ | ⟨f,c,d,e⟩<;>rw [e] at hx<;>cases hv:a.eval x<;>rw [hv] at hx<;>cases hx<;>simp [execOp,ho,hv]
end
end Go.Am
namespace Go.Am
open Go
section
variable {P:Program} {w0:World} {nt:Nat}
theorem bqo {o:Oper} {env:Env} {H:Heap} {K:Env->Heap->Prop} (C:(AV->Prop)->Prop)
  (hC:∀ w F M a,Rel w0 w F M H->EnvR F M nt env a->∀ K':AV->Prop,C K'->∃ v cv,(execOp a.eval o).run P w= .ok (.value cv) w/\VR F M v cv/\K' v)
  (h:C (fun v=>putK nt o.dst v env (fun env'=>K env' H))):OpOK P w0 nt o env H K:=by
 refine bq6 fun w F M a r er=> ?_
 obtain ⟨v,cv,hr,hv,k⟩:=hC w F M a r er _ h
 exact ⟨cv,w,v,H,F,M,hr,Ext.refl _ _,r,hv,k⟩
def dqu (P:Program) (st:TypeId) (x:AV) (f:Nat) (K:AV->Prop):Prop:=
 match fld P st f with
 | some (off,t)=>0<sz P t/\
  match x with
  | .ptr r top o=>K (.ptr r top (o+off))
  | .eptr cells o=>K (.eptr cells (o+off))
  | _=>False
 | none=>False
theorem fld_eq {st:TypeId} {f off:Nat} {t:TypeId} (h:fld P st f=some (off,t)):∃ fs fd,P.underlying st=some (.struct fs)/\fs[f]? =some fd/\fd.offset=off/\fd.type=t:=by
 unfold fld at h
 split at h
 ·rename_i fs hu
  cases hf:fs[f]? with
  | none=>simp [hf] at h
  | some fd=>simp [hf] at h;exact ⟨fs,fd,hu,hf,h.1,h.2⟩
 ·cases h
theorem ok_fieldAddr {o:Oper} {env:Env} {H:Heap} {K:Env->Heap->Prop} {st:TypeId} {x:Operand} {f:Nat} (ho:o.op= .fieldAddr st x f)
  (h:dqu P st (evO env x) f (fun v=>putK nt o.dst v env (fun env'=>K env' H))):OpOK P w0 nt o env H K:=by
 refine bqo _ ?_ h
 clear h
 intro w F M a r er K' h
 have hx:=er.ev x
 unfold dqu at h
 split at h
 ·rename_i off t hf
  obtain ⟨fs,fd,hu,hfd,rfl,rfl⟩:=fld_eq hf
  obtain ⟨hz,h⟩:=h
  have hz0:¬(sz P fd.type=0):=by omega
  split at h
  ·rename_i rr top oo e
   rw [e] at hx
   obtain ⟨g,o',cap,es,hM,hcv⟩:=hx.ptr_inv
   have e1:o'+oo+fd.offset=o'+(oo+fd.offset):=by omega
   exact ⟨_,.pointer (some ⟨g,o'+(oo+fd.offset),none⟩),by simp [execOp,ho,hcv,Instr.fieldAt,run_underlying hu,hfd,Instr.sureAddr,fieldPlace,aq0 hz,hz0,cqe,e1],.ptr hM,h⟩
  ·rename_i cells oo e
   rw [e] at hx
   obtain ⟨b,o',cs,e',fz,hF,hC,hcv⟩:=hx.eptr_inv
   have e1:o'+oo+fd.offset=o'+(oo+fd.offset):=by omega
   obtain ⟨ff,h1,h2,h3⟩:=hC.fn
   exact ⟨_,.pointer (some ⟨b,o'+(oo+fd.offset),none⟩),by simp [execOp,ho,hcv,Instr.fieldAt,run_underlying hu,hfd,Instr.sureAddr,fieldPlace,aq0 hz,hz0,cqe,e1],.eptr ff hF h1 h2 h3,h⟩
  ·exact h.elim
 ·exact h.elim
def cq8 (P:Program) (H:Heap) (t:TypeId) (x i:AV) (K:AV->Prop):Prop:=
 match i with
 | .sc (.int _ i)=>0<=i/\
  match slE P t with
  | some e=>0<sz P e/\
   match x with
   | .sl cells n | .csl cells n=>i<n/\K (.eptr cells (i.toNat*sz P e))
   | .ref r off n top | .cref r off n top=>i<n/\
    match H r with
    | some (.arr es _ _ n')=>n'=top/\es=sz P e/\K (.ptr r top ((off+i.toNat)*sz P e))
    | _=>False
   | _=>False
  | none=>match arE P t with
   | some (n,e)=>0<sz P e/\i<n/\
    match x with
    | .ptr r top o=>K (.ptr r top (o+i.toNat*sz P e))
    | .eptr cells o=>K (.eptr cells (o+i.toNat*sz P e))
    | _=>False
   | none=>False
 | _=>False
theorem VR.sl_inv {F:Ft} {M:Mt} {cells:List AV} {n:Nat} {cv:Value} (h:VR F M (.sl cells n) cv):
  ∃ a c,cv= .slice a n c/\n<=c/\((cells=[]/\n=0)\/∃ b o cs e fz,a=some ⟨b,o,none⟩/\F b=some (.cells cs e fz)/\VRC F M cells cs o):=by
 cases h with
 | sl f hF hn h1 h2 ho=>exact ⟨_,_,rfl,hn,.inr ⟨_,_,_,_,_,rfl,hF,VRC.of h1 h2 ho⟩⟩
 | sl0=>exact ⟨_,_,rfl,Nat.zero_le _,.inl ⟨rfl,rfl⟩⟩
theorem VR.csl_inv {F:Ft} {M:Mt} {cells:List AV} {n:Nat} {cv:Value} (h:VR F M (.csl cells n) cv):
  ∃ a,cv= .slice a n n/\((cells=[]/\n=0)\/∃ b o cs e fz,a=some ⟨b,o,none⟩/\F b=some (.cells cs e fz)/\VRC F M cells cs o):=by
 cases h with
 | csl f hF h1 h2 ho=>exact ⟨_,rfl,.inr ⟨_,_,_,_,_,rfl,hF,VRC.of h1 h2 ho⟩⟩
 | csl0=>exact ⟨_,rfl,.inl ⟨rfl,rfl⟩⟩
theorem VR.ref_inv {F:Ft} {M:Mt} {r off n top:Nat} {cv:Value} (h:VR F M (.ref r off n top) cv):
  ∃ b c a cap es,cv= .slice b n c/\n<=c/\off+c<=cap/\M r top=some (a,cap,es)/\(c=0\/∃ g o,a=some ⟨g,o,none⟩/\b=some ⟨g,o+off*es,none⟩):=by
 cases h with
 | ref hM hl hc hz=>exact ⟨_,_,_,_,_,rfl,hl,hc,hM,hz⟩
theorem VR.cref_inv {F:Ft} {M:Mt} {r off n top:Nat} {cv:Value} (h:VR F M (.cref r off n top) cv):
  ∃ b a cap es,cv= .slice b n n/\off+n<=cap/\M r top=some (a,cap,es)/\(n=0\/∃ g o,a=some ⟨g,o,none⟩/\b=some ⟨g,o+off*es,none⟩):=by
 cases h with
 | cref hM hc hz=>exact ⟨_,_,_,_,rfl,hc,hM,hz⟩
theorem VR.anysl_inv {F:Ft} {M:Mt} {x:AV} {cells:List AV} {n:Nat} {cv:Value} (hx:x= .sl cells n\/x= .csl cells n) (h:VR F M x cv):
  ∃ a c,cv= .slice a n c/\n<=c/\(x= .csl cells n->c=n)/\((cells=[]/\n=0)\/∃ b o cs e fz,a=some ⟨b,o,none⟩/\F b=some (.cells cs e fz)/\VRC F M cells cs o):=by
 rcases hx with rfl | rfl
 ·obtain ⟨a,c,h1,h2,h3⟩:=h.sl_inv;exact ⟨a,c,h1,h2,(fun e=>by cases e),h3⟩
 ·obtain ⟨a,h1,h3⟩:=h.csl_inv;exact ⟨a,n,h1,Nat.le_refl _,fun _=>rfl,h3⟩
theorem VR.anyref_inv {F:Ft} {M:Mt} {x:AV} {r off n top:Nat} {cv:Value} (hx:x= .ref r off n top\/x= .cref r off n top) (h:VR F M x cv):
  ∃ b c a cap es,cv= .slice b n c/\n<=c/\off+c<=cap/\M r top=some (a,cap,es)/\(x= .cref r off n top->c=n)/\(c=0\/∃ g o,a=some ⟨g,o,none⟩/\b=some ⟨g,o+off*es,none⟩):=by
 rcases hx with rfl | rfl
 ·obtain ⟨b,c,a,cap,es,h1,h2,h3,h4,h5⟩:=h.ref_inv;exact ⟨b,c,a,cap,es,h1,h2,h3,h4,(fun e=>by cases e),h5⟩
 ·obtain ⟨b,a,cap,es,h1,h2,h3,h4⟩:=h.cref_inv;exact ⟨b,n,a,cap,es,h1,Nat.le_refl _,h2,h3,fun _=>rfl,h4⟩
theorem ok_indexAddr {o:Oper} {env:Env} {H:Heap} {K:Env->Heap->Prop} {t:TypeId} {x i:Operand} (ho:o.op= .indexAddr t x i)
  (h:cq8 P H t (evO env x) (evO env i) (fun v=>putK nt o.dst v env (fun env'=>K env' H))):OpOK P w0 nt o env H K:=by
 refine bqo _ ?_ h
 clear h
 intro w F M a r er K' h
 have hx:=er.ev x
 have hi:=er.ev i
 unfold cq8 at h
 split at h
 ·rename_i ik iv ei
  rw [ei] at hi
  have hci:=hi.sc_inv
  obtain ⟨h0,h⟩:=h
  split at h
  ·rename_i e hs
   have hu:=dq7 hs
   obtain ⟨hz,h⟩:=h
   have sls:∀ cells n,(evO env x= .sl cells n\/evO env x= .csl cells n)->iv<n->K' (.eptr cells (iv.toNat*sz P e))->
     ∃ v cv,(execOp a.eval o).run P w= .ok (.value cv) w/\VR F M v cv/\K' v:=by
    intro cells n hor hlt k
    obtain ⟨ad,c,hcv,hn,_,hcase⟩:=VR.anysl_inv hor hx
    rcases hcase with ⟨_,rfl⟩ | ⟨b,o',cs,e',fz,rfl,hF,hC⟩
    ·omega
    ·obtain ⟨ff,h1,h2,h3⟩:=hC.fn
     exact ⟨_,.pointer (some ⟨b,o'+iv.toNat*sz P e,none⟩),by simp [execOp,ho,hcv,hci,Instr.indexAt,asIntOf,run_underlying hu,h0,hlt,aq0 hz,cqe],.eptr ff hF h1 h2 h3,k⟩
   have refs:∀ rr off n top,(evO env x= .ref rr off n top\/evO env x= .cref rr off n top)->iv<n->
     (match H rr with
      | some (.arr es _ _ n')=>n'=top/\es=sz P e/\K' (.ptr rr top ((off+iv.toNat)*sz P e))
      | _=>False)->∃ v cv,(execOp a.eval o).run P w= .ok (.value cv) w/\VR F M v cv/\K' v:=by
    intro rr off n top hor hlt k
    obtain ⟨b,c,ad,cap,es,hcv,hn,hoc,hM,_,hcase⟩:=VR.anyref_inv hor hx
    split at k
    ·rename_i es' e' cells n' hH
     obtain ⟨rfl,rfl,k⟩:=k
     have hb:=r.blk rr _ hH
     obtain ⟨_,_,a',cap',hM',_⟩:=hb
     rw [hM] at hM';cases hM'
     rcases hcase with hc0 | ⟨g,o',rfl,rfl⟩
     ·omega
     ·have e1:o'+off*sz P e+iv.toNat*sz P e=o'+(off+iv.toNat)*sz P e:=by rw [Nat.add_mul];omega
      exact ⟨_,.pointer (some ⟨g,o'+(off+iv.toNat)*sz P e,none⟩),by simp [execOp,ho,hcv,hci,Instr.indexAt,asIntOf,run_underlying hu,h0,hlt,aq0 hz,cqe,e1],.ptr hM,k⟩
    ·exact k.elim
   split at h
   ·rename_i cells n ex;exact sls cells n (.inl ex) h.1 h.2
   ·rename_i cells n ex;exact sls cells n (.inr ex) h.1 h.2
   ·rename_i rr off n top ex;exact refs rr off n top (.inl ex) h.1 h.2
   ·rename_i rr off n top ex;exact refs rr off n top (.inr ex) h.1 h.2
   ·exact h.elim
  ·split at h
   ·rename_i n e ha
    have hu:=arE_eq ha
    obtain ⟨hz,hlt,h⟩:=h
    split at h
    ·rename_i rr top oo ex
     rw [ex] at hx
     obtain ⟨g,o',cap,es,hM,hcv⟩:=hx.ptr_inv
     have e1:o'+oo+iv.toNat*sz P e=o'+(oo+iv.toNat*sz P e):=by omega
     exact ⟨_,.pointer (some ⟨g,o'+(oo+iv.toNat*sz P e),none⟩),by simp [execOp,ho,hcv,hci,Instr.indexAt,Instr.sureAddr,asIntOf,run_underlying hu,h0,hlt,aq0 hz,cqe,e1],.ptr hM,h⟩
    ·rename_i cells oo ex
     rw [ex] at hx
     obtain ⟨b,o',cs,e',fz,hF,hC,hcv⟩:=hx.eptr_inv
     have e1:o'+oo+iv.toNat*sz P e=o'+(oo+iv.toNat*sz P e):=by omega
     obtain ⟨ff,h1,h2,h3⟩:=hC.fn
     exact ⟨_,.pointer (some ⟨b,o'+(oo+iv.toNat*sz P e),none⟩),by simp [execOp,ho,hcv,hci,Instr.indexAt,Instr.sureAddr,asIntOf,run_underlying hu,h0,hlt,aq0 hz,cqe,e1],.eptr ff hF h1 h2 h3,h⟩
    ·exact h.elim
   ·exact h.elim
 ·exact h.elim
theorem hqn {F:Ft} {M:Mt} {x:AV} {n:Nat} {cv:Value} (hl:gqi x=some n) (h:VR F M x cv):∃ a c,cv= .slice a n c/\n<=c:=by
 unfold gqi at hl
 split at hl<;>try (cases hl;done)
 ·cases hl;obtain ⟨a,c,e,hn,_⟩:=h.sl_inv;exact ⟨a,c,e,hn⟩
 ·cases hl;obtain ⟨a,e,_⟩:=h.csl_inv;exact ⟨a,_,e,Nat.le_refl _⟩
 ·cases hl;obtain ⟨b,c,_,_,_,e,hn,_⟩:=h.ref_inv;exact ⟨b,c,e,hn⟩
 ·cases hl;obtain ⟨b,_,_,_,e,_⟩:=h.cref_inv;exact ⟨b,_,e,Nat.le_refl _⟩
 ·cases hl;have:=h.sc_inv;exact ⟨none,0,this,Nat.le_refl _⟩
theorem eqq {w:World} {F:Ft} {M:Mt} {H:Heap} {x:AV} {es lo hi n c:Nat} {clip full:Bool} {a:Option Addr} {K:AV->Prop} (r:Rel w0 w F M H) (hx:VR F M x (.slice a n c)) (h:dq6 H x es lo hi clip full K):
  lo<=hi/\hi<=n/\∃ v,VR F M v (sliced a lo hi (if clip then hi else c) es)/\K v:=by
 have sls:∀ cells m,(x= .sl cells m\/x= .csl cells m)->lo<=hi->hi<=m->(full=true->cells.length=m*es/\hi=m)->
   K (if clip then .csl (if full then cells.drop (lo*es) else (cells.drop (lo*es)).take ((hi-lo)*es)) (hi-lo) else .sl (if full then cells.drop (lo*es) else (cells.drop (lo*es)).take ((hi-lo)*es)) (hi-lo))->
   lo<=hi/\hi<=n/\∃ v,VR F M v (sliced a lo hi (if clip then hi else c) es)/\K v:=by
  intro cells m hor h1 h2 hfull k
  obtain ⟨a',c',he,hn,hcc,hcase⟩:=VR.anysl_inv hor hx
  cases he
  refine ⟨h1,h2,_,?_,k⟩
  generalize hsub:(if full then cells.drop (lo*es) else (cells.drop (lo*es)).take ((hi-lo)*es))=sub
  have hsubget:∀ i av,sub[i]? =some av->cells[lo*es+i]? =some av:=by
   intro i av hi'
   rw [<-hsub] at hi'
   split at hi'
   ·rwa [List.getElem?_drop] at hi'
   ·rw [List.getElem?_take] at hi'
    split at hi'
    ·rwa [List.getElem?_drop] at hi'
    ·cases hi'
  have hempty:hi=lo->sub=[]:=by
   intro e
   subst e
   rw [<-hsub]
   cases hf:full
   ·simp
   ·obtain ⟨g1,rfl⟩:=hfull hf
    simp [<-g1]
  by_cases he:hi=lo
  ·have e0:=hempty he
   subst he
   rw [e0,Nat.sub_self]
   cases clip
   ·simp only [Bool.false_eq_true,if_false,sliced,Nat.sub_self]
    exact .sl0
   ·simp only [if_true,sliced,Nat.sub_self]
    exact .csl0
  ·have hlt:lo<hi:=by omega
   rcases hcase with ⟨rfl,rfl⟩ | ⟨b,o,cs,e,fz,rfl,hF,hC⟩
   ·omega
   ·have hC':VRC F M sub cs (o+lo*es):=by
     intro i av hi'
     obtain ⟨p,cv,q,s⟩:=hC _ _ (hsubget i av hi')
     exact ⟨p,cv,by rw [Nat.add_assoc];exact q,s⟩
    obtain ⟨ff,g1,g2,g3⟩:=hC'.fn
    cases clip
    ·have hne:¬(c=lo):=by omega
     simp only [Bool.false_eq_true,if_false,sliced,if_neg hne,Option.map_some,cqe]
     exact .sl ff hF (by omega) g1 g2 g3
    ·simp only [if_true,sliced,if_neg he,Option.map_some,cqe]
     exact .csl ff hF g1 g2 g3
 have refs:∀ rr off m top,(x= .ref rr off m top\/x= .cref rr off m top)->lo<=hi->hi<=m->
   (match H rr with
    | some (.arr es' _ _ n')=>n'=top/\es'=es/\K (if clip then .cref rr (off+lo) (hi-lo) top else .ref rr (off+lo) (hi-lo) top)
    | _=>False)->lo<=hi/\hi<=n/\∃ v,VR F M v (sliced a lo hi (if clip then hi else c) es)/\K v:=by
  intro rr off m top hor h1 h2 k
  obtain ⟨b,c',a',cap,es',he,hn,hoc,hM,_,hcase⟩:=VR.anyref_inv hor hx
  cases he
  split at k
  ·rename_i es2 e2 cells n' hH
   obtain ⟨rfl,rfl,k⟩:=k
   obtain ⟨_,_,a2,cap2,hM2,_⟩:=r.blk rr _ hH
   rw [hM] at hM2;cases hM2
   refine ⟨h1,h2,_,?_,k⟩
   cases clip
   ·simp only [Bool.false_eq_true,if_false,sliced]
    refine .ref hM (by omega) (by omega) ?_
    by_cases hz:c-lo=0
    ·exact .inl hz
    ·rcases hcase with hc0 | ⟨g,o',rfl,rfl⟩
     ·omega
     ·refine .inr ⟨g,o',rfl,?_⟩
      rw [if_neg (by omega),Option.map_some,cqe,Nat.add_mul,Nat.add_assoc]
   ·simp only [if_true,sliced]
    refine .cref hM (by omega) ?_
    by_cases hz:hi-lo=0
    ·exact .inl hz
    ·rcases hcase with hc0 | ⟨g,o',rfl,rfl⟩
     ·omega
     ·refine .inr ⟨g,o',rfl,?_⟩
      rw [if_neg (by omega),Option.map_some,cqe,Nat.add_mul,Nat.add_assoc]
  ·exact k.elim
 unfold dq6 at h
 split at h
 ·rename_i cells m;exact sls cells m (.inl rfl) h.1 h.2.1 h.2.2.1 h.2.2.2
 ·rename_i cells m;exact sls cells m (.inr rfl) h.1 h.2.1 h.2.2.1 h.2.2.2
 ·rename_i rr off m top;exact refs rr off m top (.inl rfl) h.1 h.2.1 h.2.2
 ·rename_i rr off m top;exact refs rr off m top (.inr rfl) h.1 h.2.1 h.2.2
 ·obtain ⟨rfl,rfl,k⟩:=h
  have e:=hx.sc_inv
  cases e
  refine ⟨Nat.le_refl _,Nat.le_refl _,_,?_,k⟩
  cases clip<;>simp [sliced]<;>exact .sc _
 ·exact h.elim
def bndA (env:Env):Option Operand->Option AV
 | some x=>some (evO env x)
 | none=>none
def intA:AV->Option Int
 | .sc (.int _ n)=>some n
 | _=>none
def eq4 (P:Program) (H:Heap) (t:TypeId) (x:AV) (lo hi mx:Option AV) (K:AV->Prop):Prop:=
 match slE P t with
 | some e=>0<sz P e/\
  match gqi x with
  | some n=>
   match lo.map intA,hi.map intA,mx.map intA with
   | none,none,none=>dq6 H x (sz P e) 0 n false true K
   | some (some l),none,none=>0<=l/\dq6 H x (sz P e) l.toNat n false true K
   | none,some (some h),none=>0<=h/\dq6 H x (sz P e) 0 h.toNat false false K
   | some (some l),some (some h),none=>0<=l/\0<=h/\dq6 H x (sz P e) l.toNat h.toNat false false K
   | none,some (some h),some (some m)=>h=m/\0<=h/\dq6 H x (sz P e) 0 h.toNat true false K
   | some (some l),some (some h),some (some m)=>h=m/\0<=l/\0<=h/\dq6 H x (sz P e) l.toNat h.toNat true false K
   | _,_,_=>False
  | none=>False
 | none=>False
theorem intA_inv {F:Ft} {M:Mt} {x:AV} {n:Int} {cv:Value} (h:intA x=some n) (hv:VR F M x cv):∃ k,cv= .int k n:=by
 unfold intA at h
 split at h
 ·cases h;exact ⟨_,hv.sc_inv⟩
 ·cases h
theorem ok_slice {o:Oper} {env:Env} {H:Heap} {K:Env->Heap->Prop} {t:TypeId} {x:Operand} {lo hi mx:Option Operand} (ho:o.op= .slice t x lo hi mx)
  (h:eq4 P H t (evO env x) (bndA env lo) (bndA env hi) (bndA env mx) (fun v=>putK nt o.dst v env (fun env'=>K env' H))):OpOK P w0 nt o env H K:=by
 refine bqo _ ?_ h
 clear h
 intro w F M a r er K' h
 have hx:=er.ev x
 unfold eq4 at h
 split at h
 ·rename_i e hs
  have hu:=dq7 hs
  obtain ⟨hz,h⟩:=h
  have hel:P.elem t=e:=by simp [Program.elem,hu]
  split at h
  ·rename_i n hn
   obtain ⟨ad,c,hcv,hnc⟩:=hqn hn hx
   rw [hcv] at hx
   have base:(execOp a.eval o).run P w=((Instr.slice t (.slice ad n c) (lo.map a.eval) (hi.map a.eval) (mx.map a.eval)).run P w).andThen fun v w'=> .ok (.value v) w':=by
    simp [execOp,ho,hcv,Instr.sliceAt,run_underlying hu]
   have bnd:∀ (b:Option Operand),(bndA env b).map intA=none->b=none:=by
    intro b hb;cases b with
    | none=>rfl
    | some y=>simp [bndA] at hb
   have bnd':∀ (b:Option Operand) (i:Int),(bndA env b).map intA=some (some i)->∃ k,b.map a.eval=some (.int k i):=by
    intro b i hb;cases b with
    | none=>simp [bndA] at hb
    | some y=>
     simp [bndA] at hb
     obtain ⟨k,hk⟩:=intA_inv hb (er.ev y)
     exact ⟨k,by simp [hk]⟩
   have huE:P.underlying t=some (.slice (P.elem t)):=by rw [hel];exact hu
   split at h
   ·rename_i e1 e2 e3
    obtain ⟨g1,g2,v,hv,k⟩:=eqq r hx h
    rw [bnd lo e1,bnd hi e2,bnd mx e3] at base
    exact ⟨v,sliced ad 0 n c (sz P e),by rw [base];simp [run_slice_all (P:=P) w t ad n c huE,hel,aq0 hz],by simpa using hv,k⟩
   ·rename_i l e1 e2 e3
    obtain ⟨h0,h⟩:=h
    obtain ⟨g1,g2,v,hv,k⟩:=eqq r hx h
    obtain ⟨kl,hl⟩:=bnd' lo l e1
    rw [hl,bnd hi e2,bnd mx e3] at base
    exact ⟨v,sliced ad l.toNat n c (sz P e),by rw [base];simp [run_slice_l (P:=P) w t ad n c huE kl l h0 (by omega),hel,aq0 hz],by simpa using hv,k⟩
   ·rename_i hh e1 e2 e3
    obtain ⟨h0,h⟩:=h
    obtain ⟨g1,g2,v,hv,k⟩:=eqq r hx h
    obtain ⟨kh,hl⟩:=bnd' hi hh e2
    rw [hl,bnd lo e1,bnd mx e3] at base
    exact ⟨v,sliced ad 0 hh.toNat c (sz P e),by rw [base];simp [run_slice_h (P:=P) w t ad n c huE kh hh h0 (by omega),hel,aq0 hz],by simpa using hv,k⟩
   ·rename_i l hh e1 e2 e3
    obtain ⟨h0,h0',h⟩:=h
    obtain ⟨g1,g2,v,hv,k⟩:=eqq r hx h
    obtain ⟨kl,hl⟩:=bnd' lo l e1
    obtain ⟨kh,hl'⟩:=bnd' hi hh e2
    rw [hl,hl',bnd mx e3] at base
    exact ⟨v,sliced ad l.toNat hh.toNat c (sz P e),by rw [base];simp [run_slice_lh (P:=P) w t ad n c huE kl kh l hh h0 (by omega) (by omega),hel,aq0 hz],by simpa using hv,k⟩
   ·rename_i hh m e1 e2 e3
    obtain ⟨rfl,h0,h⟩:=h
    obtain ⟨g1,g2,v,hv,k⟩:=eqq r hx h
    obtain ⟨kh,hl⟩:=bnd' hi hh e2
    obtain ⟨km,hl'⟩:=bnd' mx hh e3
    rw [hl,hl',bnd lo e1] at base
    exact ⟨v,sliced ad 0 hh.toNat hh.toNat (sz P e),by rw [base];simp [run_slice_hm (P:=P) w t ad n c huE kh km hh hh h0 (by omega) (by omega),hel,aq0 hz],by simpa using hv,k⟩
   ·rename_i l hh m e1 e2 e3
    obtain ⟨rfl,h0,h0',h⟩:=h
    obtain ⟨g1,g2,v,hv,k⟩:=eqq r hx h
    obtain ⟨kl,hl⟩:=bnd' lo l e1
    obtain ⟨kh,hl'⟩:=bnd' hi hh e2
    obtain ⟨km,hl2⟩:=bnd' mx hh e3
    rw [hl,hl',hl2] at base
    exact ⟨v,sliced ad l.toNat hh.toNat hh.toNat (sz P e),by rw [base];simp [run_slice_lhm (P:=P) w t ad n c huE kl kh km l hh hh h0 (by omega) (by omega) (by omega),hel,aq0 hz],by simpa using hv,k⟩
   ·exact h.elim
  ·exact h.elim
 ·exact h.elim
def lq7 (P:Program) (t:TypeId) (x:AV) (f:Nat) (K:AV->Prop):Prop:=
 match x with
 | .agg cells=>match fld P t f with
  | some (off,ft)=>iqr P ft cells off K
  | none=>False
 | _=>False
theorem VR.agg_inv {F:Ft} {M:Mt} {cells:List AV} {cv:Value} (h:VR F M (.agg cells) cv):∃ cs,cv= .agg cs/\cs.size=cells.length/\VRC F M cells cs 0:=by
 cases h with
 | agg f hs h1 h2 ho=>exact ⟨_,rfl,hs,VRC.of (by simpa using h1) h2 ho⟩
theorem lqn {F:Ft} {M:Mt} {w:World} {t:TypeId} {cells:List AV} {off:Nat} {cs:Array Value} {K:AV->Prop}
  (hc:VRC F M cells cs 0) (hs:cs.size=cells.length) (h:iqr P t cells off K):
  ∃ v cv,(part t cs off).run P w= .ok cv w/\VR F M v cv/\K v:=by
 unfold iqr at h
 split at h
 ·rename_i hsc
  split at h
  ·rename_i v hv
   obtain ⟨_,cv,hcv,hvr⟩:=hc off v hv
   rw [Nat.zero_add] at hcv
   exact ⟨v,cv,by simp [part,gqk hsc,hcv],hvr,h⟩
  ·exact h.elim
 ·obtain ⟨ha,hz,hl,k⟩:=h
  refine ⟨_,.agg (cs.extract off (off+sz P t)),by simp [part,gql ha,aq0 hz],.agg (fun i=>(cs[off+i]?).getD undef) (by simp;omega) ?_ ?_ ?_,k⟩
  ·intro i av hi
   rw [List.getElem?_take] at hi
   split at hi
   ·have h1:off+i<cs.size:=by omega
    rw [Array.getElem?_extract,if_pos (by omega)]
    simp [h1]
   ·cases hi
  ·intro i av hi
   rw [List.getElem?_take] at hi
   split at hi
   ·rw [List.getElem?_drop] at hi
    obtain ⟨_,cv,hcv,hvr⟩:=hc _ _ hi
    rw [Nat.zero_add] at hcv
    simpa [hcv] using hvr
   ·cases hi
  ·intro i av hi
   rw [List.getElem?_take] at hi
   split at hi
   ·rw [List.getElem?_drop] at hi
    exact (hc _ _ hi).1
   ·cases hi
theorem ok_field {o:Oper} {env:Env} {H:Heap} {K:Env->Heap->Prop} {t:TypeId} {x:Operand} {f:Nat} (ho:o.op= .field t x f)
  (h:lq7 P t (evO env x) f (fun v=>putK nt o.dst v env (fun env'=>K env' H))):OpOK P w0 nt o env H K:=by
 refine bqo _ ?_ h
 clear h
 intro w F M a r er K' h
 have hx:=er.ev x
 unfold lq7 at h
 split at h
 ·rename_i cells e
  rw [e] at hx
  obtain ⟨cs,hcv,hsz,hC⟩:=hx.agg_inv
  split at h
  ·rename_i off ft hf
   obtain ⟨fs,fd,hu,hfd,rfl,rfl⟩:=fld_eq hf
   obtain ⟨v,cv,hr,hv,k⟩:=lqn (P:=P) (w:=w) hC hsz h
   exact ⟨v,cv,by simp [execOp,ho,hcv,Instr.field,run_underlying hu,hfd,asAgg,hr],hv,k⟩
  ·exact h.elim
 ·exact h.elim
def lq1 (P:Program) (t:TypeId) (x i:AV) (K:AV->Prop):Prop:=
 match x,i with
 | .agg cells,.sc (.int _ i)=>match arE P t with
  | some (n,e)=>0<sz P e/\0<=i/\i<n/\iqr P e cells (i.toNat*sz P e) K
  | none=>False
 | .sc (.string s),.sc (.int _ i)=>P.underlying t=some .string/\0<=i/\∃ h:i.toNat<s.size,K (.sc (.int .u8 (s[i.toNat]).toNat))
 | _,_=>False
theorem ok_index {o:Oper} {env:Env} {H:Heap} {K:Env->Heap->Prop} {t:TypeId} {x i:Operand} (ho:o.op= .index t x i)
  (h:lq1 P t (evO env x) (evO env i) (fun v=>putK nt o.dst v env (fun env'=>K env' H))):OpOK P w0 nt o env H K:=by
 refine bqo _ ?_ h
 clear h
 intro w F M a r er K' h
 have hx:=er.ev x
 have hi:=er.ev i
 unfold lq1 at h
 split at h
 ·rename_i cells ik iv e1 e2
  rw [e1] at hx;rw [e2] at hi
  have hci:=hi.sc_inv
  obtain ⟨cs,hcv,hsz,hC⟩:=hx.agg_inv
  split at h
  ·rename_i n e ha
   have hu:=arE_eq ha
   obtain ⟨hz,h0,h1,h⟩:=h
   obtain ⟨v,cv,hr,hv,k⟩:=lqn (P:=P) (w:=w) hC hsz h
   exact ⟨v,cv,by simp [execOp,ho,hcv,hci,Instr.index,run_underlying hu,asIntOf,h0,h1,aq0 hz,hr],hv,k⟩
  ·exact h.elim
 ·rename_i s ik iv e1 e2
  rw [e1] at hx;rw [e2] at hi
  have hcx:=hx.sc_inv
  have hci:=hi.sc_inv
  obtain ⟨hu,h0,h1,k⟩:=h
  exact ⟨_,.int .u8 (s[iv.toNat]).toNat,by simp [execOp,ho,hcx,hci,Instr.index,run_underlying hu,asIntOf,h0,h1],.sc _,k⟩
 ·exact h.elim
def gqf (x:AV) (i:Nat) (K:AV->Prop):Prop:=
 match x with
 | .tup vs=>match vs[i]? with
  | some v=>K v
  | none=>False
 | _=>False
theorem ok_extract {o:Oper} {env:Env} {H:Heap} {K:Env->Heap->Prop} {x:Operand} {i:Nat} (ho:o.op= .extract x i)
  (h:gqf (evO env x) i (fun v=>putK nt o.dst v env (fun env'=>K env' H))):OpOK P w0 nt o env H K:=by
 refine bqo _ ?_ h
 clear h
 intro w F M a r er K' h
 have hx:=er.ev x
 unfold gqf at h
 split at h
 ·rename_i vs e
  rw [e] at hx
  split at h
  ·rename_i v hv
   generalize hcv:a.eval x=cv at hx
   cases hx with
   | tup f hs h1 h2=>exact ⟨v,f i,by simp [execOp,ho,hcv,Instr.extract,h1 i v hv],h2 i v hv,h⟩
  ·exact h.elim
 ·exact h.elim
end
end Go.Am
namespace Go.Am
open Go
section
variable {P:Program} {w0:World} {nt:Nat}
theorem wrap_id {n:Int} (h:i64ok n):IntKind.i64.wrap n=n:=by
 unfold i64ok at h
 rw [IntKind.wrap_i64]
 omega
theorem fqf {k:IntKind} {n:Int} {K:AV->Prop} (h:jqm k n K):K (.sc (.int k (k.wrap n))):=by
 unfold jqm at h
 split at h
 ·rename_i e;subst e;rw [wrap_id h.1];exact h.2
 ·exact h
def kql:AV->Bool
 | .sc (.slice none 0 0)=>true
 | _=>false
def eqA (P:Program) (t:TypeId) (neg:Bool) (x y:AV) (K:AV->Prop):Prop:=
 match x,y with
 | .sc (.bool a),.sc (.bool b)=>P.underlying t=some .bool/\K (B (neg !=(a==b)))
 | .sc (.string a),.sc (.string b)=>K (B (neg !=(a.toList==b.toList)))
 | .ptr ..,.sc (.pointer none)=>(∃ e,P.underlying t=some (.pointer e))/\K (B (neg !=false))
 | .sc (.pointer none),.sc (.pointer none)=>(∃ e,P.underlying t=some (.pointer e))/\K (B (neg !=true))
 | .sc .nilIface,.sc .nilIface=>(∃ e,P.underlying t=some (.interface e))/\K (B (neg !=true))
 | .ifc _ _,.sc .nilIface=>(∃ e,P.underlying t=some (.interface e))/\K (B (neg !=false))
 | _,_=>False
def eqS (P:Program) (t:TypeId) (neg:Bool) (x:AV) (K:AV->Prop):Prop:=
 (slE P t).isSome=true/\
  match gqi x with
  | some 0=>(kql x=false->K (B (neg !=false)))/\K (B (neg !=true))
  | some (_+1)=>K (B (neg !=false))
  | none=>False
theorem cqw (t:TypeId) (x y:Value):Op.equal t x y=Op.equalIn (9999+1) t x y:=rfl
theorem jqd (d:Nat) {t:TypeId} (hu:P.underlying t=some .bool) (a b:Bool) (w:World):(Op.equalIn (d+1) t (.bool a) (.bool b)).run P w= .ok (a==b) w:=by
 simp [Op.equalIn,run_underlying hu]
theorem fqc (d:Nat) {t e:TypeId} (hu:P.underlying t=some (.pointer e)) (a:Option Addr) (w:World):(Op.equalIn (d+1) t (.pointer a) (.pointer none)).run P w= .ok a.isNone w:=by
 cases a<;>simp [Op.equalIn,run_underlying hu]
theorem fqj (d:Nat) {t:TypeId} {e:Array (String×TypeId)} (hu:P.underlying t=some (.interface e)) (w:World):(Op.equalIn (d+1) t .nilIface .nilIface).run P w= .ok true w:=by
 simp [Op.equalIn,run_underlying hu]
theorem hq9 (d:Nat) {t:TypeId} {e:Array (String×TypeId)} (hu:P.underlying t=some (.interface e)) (tv:TypeId) (v:Value) (w:World):(Op.equalIn (d+1) t (.iface tv v) .nilIface).run P w= .ok false w:=by
 simp [Op.equalIn,run_underlying hu]
theorem nqo (d:Nat) {t e:TypeId} (hu:P.underlying t=some (.slice e)) (a:Option Addr) (n c:Nat) (w:World):(Op.equalIn (d+1) t (.slice a n c) (.slice none 0 0)).run P w= .ok a.isNone w:=by
 cases a<;>simp [Op.equalIn,run_underlying hu]
theorem not_nilS {F:Ft} {M:Mt} {x:AV} {ad:Addr} {n c:Nat} (h:VR F M x (.slice (some ad) n c)):kql x=false:=by
 unfold kql
 split
 ·have:=h.sc_inv;cases this
 ·rfl
theorem slLen_pos {F:Ft} {M:Mt} {x:AV} {m n c:Nat} (hl:gqi x=some (m+1)) (h:VR F M x (.slice none n c)):False:=by
 unfold gqi at hl
 split at hl<;>try (cases hl;done)
 ·cases hl;obtain ⟨a',c',e1,_,hcase⟩:=h.sl_inv;cases e1;rcases hcase with ⟨_,h0⟩ | ⟨_,_,_,_,_,e2,_⟩<;>first | omega | cases e2
 ·cases hl;obtain ⟨a',e1,hcase⟩:=h.csl_inv;cases e1;rcases hcase with ⟨_,h0⟩ | ⟨_,_,_,_,_,e2,_⟩<;>first | omega | cases e2
 ·cases hl;obtain ⟨_,_,_,_,_,e1,hn',_,_,hcase⟩:=h.ref_inv;cases e1;rcases hcase with h0 | ⟨_,_,_,e2⟩<;>first | omega | cases e2
 ·cases hl;obtain ⟨_,_,_,_,e1,_,_,hcase⟩:=h.cref_inv;cases e1;rcases hcase with h0 | ⟨_,_,_,e2⟩<;>first | omega | cases e2
theorem eqA_run {w:World} {F:Ft} {M:Mt} {H:Heap} {t:TypeId} {x y:AV} {cx cy:Value} {xo yo:Operand} {K:AV->Prop} (_r:Rel w0 w F M H) (hx:VR F M x cx) (hy:VR F M y cy)
  (hyc:cy= .nilIface->∃ v,yo= .const v) {neg:Bool} (h:eqA P t neg x y K):
  ∃ b,(do eqGuard .eql t xo yo cx cy;binOp .eql t cx cy:Sem Value).run P w= .ok (.bool b) w/\(do eqGuard .neq t xo yo cx cy;binOp .neq t cx cy:Sem Value).run P w= .ok (.bool (!b)) w/\K (B (neg !=b)):=by
 unfold eqA at h
 split at h
 ·rename_i a b
  have h1:=hx.sc_inv;have h2:=hy.sc_inv;subst h1 h2
  obtain ⟨hu,k⟩:=h
  exact ⟨a==b,by simp [eqGuard,binOp,cqw,jqd _ hu],by simp [eqGuard,binOp,cqw,jqd _ hu],k⟩
 ·rename_i a b
  have h1:=hx.sc_inv;have h2:=hy.sc_inv;subst h1 h2
  exact ⟨a.toList==b.toList,by simp [eqGuard,binOp,Op.stringOp],by simp [eqGuard,binOp,Op.stringOp],h⟩
 ·obtain ⟨⟨e,hu⟩,k⟩:=h
  obtain ⟨g,o,cap,es,hM,rfl⟩:=hx.ptr_inv
  have h2:=hy.sc_inv;subst h2
  exact ⟨false,by simp [eqGuard,binOp,cqw,fqc _ hu],by simp [eqGuard,binOp,cqw,fqc _ hu],k⟩
 ·obtain ⟨⟨e,hu⟩,k⟩:=h
  have h1:=hx.sc_inv;have h2:=hy.sc_inv;subst h1 h2
  exact ⟨true,by simp [eqGuard,binOp,cqw,fqc _ hu],by simp [eqGuard,binOp,cqw,fqc _ hu],k⟩
 ·obtain ⟨⟨e,hu⟩,k⟩:=h
  have h1:=hx.sc_inv;have h2:=hy.sc_inv;subst h1 h2
  obtain ⟨v,rfl⟩:=hyc rfl
  exact ⟨true,by simp [eqGuard,binOp,cqw,fqj _ hu],by simp [eqGuard,binOp,cqw,fqj _ hu],k⟩
 ·obtain ⟨⟨e,hu⟩,k⟩:=h
  have h2:=hy.sc_inv;subst h2
  cases hx with
  | ifc hv=>exact ⟨false,by simp [eqGuard,binOp,cqw,hq9 _ hu],by simp [eqGuard,binOp,cqw,hq9 _ hu],k⟩
 ·exact h.elim
theorem eqS_run {w:World} {F:Ft} {M:Mt} {t:TypeId} {x:AV} {cx:Value} {xo yo:Operand} {K:AV->Prop} {neg:Bool} (hx:VR F M x cx) (h:eqS P t neg x K):
  ∃ b,(do eqGuard .eql t xo yo cx (.slice none 0 0);binOp .eql t cx (.slice none 0 0):Sem Value).run P w= .ok (.bool b) w/\(do eqGuard .neq t xo yo cx (.slice none 0 0);binOp .neq t cx (.slice none 0 0):Sem Value).run P w= .ok (.bool (!b)) w/\K (B (neg !=b)):=by
 obtain ⟨hsl,h⟩:=h
 obtain ⟨e,he⟩:=Option.isSome_iff_exists.1 hsl
 have hu:=dq7 he
 have run:∀ (ad:Option Addr) (n c:Nat),(do eqGuard .eql t xo yo (.slice ad n c) (.slice none 0 0);binOp .eql t (.slice ad n c) (.slice none 0 0):Sem Value).run P w= .ok (.bool ad.isNone) w/\
   (do eqGuard .neq t xo yo (.slice ad n c) (.slice none 0 0);binOp .neq t (.slice ad n c) (.slice none 0 0):Sem Value).run P w= .ok (.bool (!ad.isNone)) w:=by
  intro ad n c
  constructor<;>simp [eqGuard,binOp,cqw,nqo _ hu]
 split at h
 ·rename_i hl
  obtain ⟨ad,c,rfl,_⟩:=hqn hl hx
  refine ⟨ad.isNone,(run ad 0 c).1,(run ad 0 c).2,?_⟩
  cases ad with
  | none=>exact h.2
  | some ad=>exact h.1 (not_nilS hx)
 ·rename_i m hl
  obtain ⟨ad,c,rfl,hn⟩:=hqn hl hx
  refine ⟨ad.isNone,(run ad _ c).1,(run ad _ c).2,?_⟩
  have:ad.isNone=false:=by
   cases ad with
   | some _=>rfl
   | none=>exact (slLen_pos hl hx).elim
  rw [this];exact h
 ·exact h.elim
def binK (P:Program) (op:BinOp) (t:TypeId) (x y:AV) (yconst:Bool) (K:AV->Prop):Prop:=
 match x,y with
 | .sc (.int _ _),.sc (.int _ _)=>binA op x y K
 | _,_=>yconst=true/\
  match op with
  | .eql=>eqA P t false x y K
  | .neq=>eqA P t true x y K
  | _=>False
def isConstO:Operand->Bool
 | .const _=>true
 | _=>false
def mq0 (y:Operand) (v:AV):Bool:=
 match v with
 | .sc .nilIface=>isConstO y
 | _=>true
theorem ok_binS {o:Oper} {env:Env} {H:Heap} {K:Env->Heap->Prop} {t t':TypeId} {x:Operand} (neg:Bool) (ho:o.op= .binOp (if neg then .neq else .eql) t x (.const (.slice none 0 0)) t')
  (h:eqS P t neg (evO env x) (fun v=>putK nt o.dst v env (fun env'=>K env' H))):OpOK P w0 nt o env H K:=by
 refine bqo _ ?_ h
 clear h
 intro w F M a r er K' h
 obtain ⟨b,h1,h2,k⟩:=eqS_run (xo:=x) (yo:= .const (.slice none 0 0)) (w:=w) (er.ev x) h
 refine ⟨_,.bool (neg !=b),?_,.sc _,k⟩
 cases neg
 ·simp only [execOp,ho,Sem.run_bind,Act.eval,Bool.false_eq_true,if_false] at h1 ⊢
  rw [h1];simp
 ·simp only [execOp,ho,Sem.run_bind,Act.eval,if_true] at h2 ⊢
  rw [h2];simp
theorem ok_bin {o:Oper} {env:Env} {H:Heap} {K:Env->Heap->Prop} {op:BinOp} {t t':TypeId} {x y:Operand} (ho:o.op= .binOp op t x y t')
  (h:binK P op t (evO env x) (evO env y) (mq0 y (evO env y)) (fun v=>putK nt o.dst v env (fun env'=>K env' H))):OpOK P w0 nt o env H K:=by
 refine bqo _ ?_ h
 clear h
 intro w F M a r er K' h
 have hx:=er.ev x
 have hy:=er.ev y
 unfold binK at h
 split at h
 ·rename_i k n k' m e1 e2
  rw [e1] at hx;rw [e2] at hy
  have c1:=hx.sc_inv
  have c2:=hy.sc_inv
  have hg:(eqGuard op t x y (.int k n) (.int k' m)).run P w= .ok () w:=by
   unfold eqGuard
   cases op<;>simp
  rw [e1,e2] at h
  unfold binA at h
  cases op
  all_goals (try simp only at h)
  case shl=> 
   obtain ⟨h0,h⟩:=h
   have:=fqf h
   exact ⟨_,.int k (k.wrap (n*2^(min m.toNat k.bits))),by simp [execOp,ho,c1,c2,hg,binOp,Op.shift,Int.not_lt.2 h0],.sc _,this⟩
  case shr=>
   obtain ⟨h0,h⟩:=h
   exact ⟨_,.int k (n.fdiv (2^(min m.toNat k.bits))),by simp [execOp,ho,c1,c2,hg,binOp,Op.shift,Int.not_lt.2 h0],.sc _,h⟩
  case add=>obtain ⟨rfl,h⟩:=h;have:=fqf h;exact ⟨_,.int k (k.wrap (n+m)),by simp [execOp,ho,c1,c2,hg,binOp,Op.intArith],.sc _,this⟩
  case sub=>obtain ⟨rfl,h⟩:=h;have:=fqf h;exact ⟨_,.int k (k.wrap (n-m)),by simp [execOp,ho,c1,c2,hg,binOp,Op.intArith],.sc _,this⟩
  case mul=>obtain ⟨rfl,h⟩:=h;have:=fqf h;exact ⟨_,.int k (k.wrap (n*m)),by simp [execOp,ho,c1,c2,hg,binOp,Op.intArith],.sc _,this⟩
  case quo=>obtain ⟨rfl,h0,h⟩:=h;have:=fqf h;exact ⟨_,.int k (k.wrap (n.tdiv m)),by simp [execOp,ho,c1,c2,hg,binOp,Op.intDiv,h0],.sc _,this⟩
  case rem=>obtain ⟨rfl,h0,h⟩:=h;exact ⟨_,.int k (n.tmod m),by simp [execOp,ho,c1,c2,hg,binOp,Op.intDiv,h0],.sc _,h⟩
  case eql=>obtain ⟨rfl,h⟩:=h;exact ⟨_,.bool (decide (n=m)),by simp [execOp,ho,c1,c2,hg,binOp,Op.intCmp];rfl,.sc _,h⟩
  case neq=>obtain ⟨rfl,h⟩:=h;exact ⟨_,.bool (!decide (n=m)),by simp [execOp,ho,c1,c2,hg,binOp,Op.intCmp];rfl,.sc _,h⟩
  case lss=>obtain ⟨rfl,h⟩:=h;exact ⟨_,.bool (decide (n<m)),by simp [execOp,ho,c1,c2,hg,binOp,Op.intCmp],.sc _,h⟩
  case leq=>obtain ⟨rfl,h⟩:=h;exact ⟨_,.bool (decide (n<=m)),by simp [execOp,ho,c1,c2,hg,binOp,Op.intCmp],.sc _,h⟩
  case gtr=>obtain ⟨rfl,h⟩:=h;exact ⟨_,.bool (decide (m<n)),by simp [execOp,ho,c1,c2,hg,binOp,Op.intCmp],.sc _,h⟩
  case geq=>obtain ⟨rfl,h⟩:=h;exact ⟨_,.bool (decide (m<=n)),by simp [execOp,ho,c1,c2,hg,binOp,Op.intCmp],.sc _,h⟩
  case and=>obtain ⟨rfl,h⟩:=h;exact ⟨_,.int k (k.wrap ((BitVec.ofInt k.bits n)&&&(BitVec.ofInt k.bits m)).toNat),by simp [execOp,ho,c1,c2,hg,binOp,Op.intBits],.sc _,h⟩
  case or=>obtain ⟨rfl,h⟩:=h;exact ⟨_,.int k (k.wrap ((BitVec.ofInt k.bits n) ||| (BitVec.ofInt k.bits m)).toNat),by simp [execOp,ho,c1,c2,hg,binOp,Op.intBits],.sc _,h⟩
  case xor=>obtain ⟨rfl,h⟩:=h;exact ⟨_,.int k (k.wrap ((BitVec.ofInt k.bits n) ^^^ (BitVec.ofInt k.bits m)).toNat),by simp [execOp,ho,c1,c2,hg,binOp,Op.intBits],.sc _,h⟩
  case andNot=>exact h.2.elim
 ·obtain ⟨hcn,h⟩:=h
  have hyc:a.eval y= .nilIface->∃ v,y= .const v:=by
   intro e
   rw [e] at hy
   have hz:evO env y= .sc .nilIface:=by generalize evO env y=z at hy;cases hy;rfl
   rw [hz] at hcn
   cases y with
   | const v=>exact ⟨v,rfl⟩
   | _=>cases hcn
  split at h
  ·obtain ⟨b,h1,h2,k⟩:=eqA_run (xo:=x) (yo:=y) r hx hy hyc h
   refine ⟨_,.bool (false !=b),?_,.sc _,k⟩
   simp only [execOp,ho,Sem.run_bind] at h1 ⊢
   rw [h1];simp
  ·obtain ⟨b,h1,h2,k⟩:=eqA_run (xo:=x) (yo:=y) r hx hy hyc h
   refine ⟨_,.bool (true !=b),?_,.sc _,k⟩
   simp only [execOp,ho,Sem.run_bind] at h2 ⊢
   rw [h2];simp
  ·exact h.elim
def unK (op:UnOp) (x:AV) (K:AV->Prop):Prop:=
 match op,x with
 | .not,.sc (.bool b)=>K (B (!b))
 | .neg,.sc (.int k n)=>jqm k (0-n) K
 | _,_=>False
theorem ok_un {o:Oper} {env:Env} {H:Heap} {K:Env->Heap->Prop} {op:UnOp} {t:TypeId} {x:Operand} (ho:o.op= .unOp op t x)
  (h:unK op (evO env x) (fun v=>putK nt o.dst v env (fun env'=>K env' H))):OpOK P w0 nt o env H K:=by
 refine bqo _ ?_ h
 clear h
 intro w F M a r er K' h
 have hx:=er.ev x
 unfold unK at h
 split at h
 ·rename_i b e;rw [e] at hx
  exact ⟨_,.bool (!b),by simp [execOp,ho,hx.sc_inv,Op.unary],.sc _,h⟩
 ·rename_i k n e;rw [e] at hx
  have:=fqf h
  exact ⟨_,.int k (k.wrap (0-n)),by simp [execOp,ho,hx.sc_inv,Op.unary,Op.intArith],.sc _,this⟩
 ·exact h.elim
def intOf? (P:Program) (t:TypeId):Option IntKind:=
 match P.underlying t with
 | some (.int k)=>some k
 | _=>none
def convK (P:Program) (src dst:TypeId) (x:AV) (K:AV->Prop):Prop:=
 match x with
 | .sc (.int _ n)=>match intOf? P dst with
  | some k=>(P.underlying src).isSome=true/\jqm k n K
  | none=>False
 | _=>False
theorem ok_conv {o:Oper} {env:Env} {H:Heap} {K:Env->Heap->Prop} {src dst:TypeId} {x:Operand} (ho:o.op= .convert src dst x)
  (h:convK P src dst (evO env x) (fun v=>putK nt o.dst v env (fun env'=>K env' H))):OpOK P w0 nt o env H K:=by
 refine bqo _ ?_ h
 clear h
 intro w F M a r er K' h
 have hx:=er.ev x
 unfold convK at h
 split at h
 ·rename_i k n e;rw [e] at hx
  split at h
  ·rename_i kd hk
   obtain ⟨hs,h⟩:=h
   obtain ⟨ds,hds⟩:=Option.isSome_iff_exists.1 hs
   have hd:P.underlying dst=some (.int kd):=by
    unfold intOf? at hk
    split at hk
    ·cases hk;assumption
    ·cases hk
   have:=fqf h
   exact ⟨_,.int kd (kd.wrap n),by simp [execOp,ho,hx.sc_inv,convert,run_underlying hds,run_underlying hd,Conv.intToInt],.sc _,this⟩
  ·exact h.elim
 ·exact h.elim
def ifaceK (P:Program) (t:TypeId) (x:AV) (K:AV->Prop):Prop:=aqr P t=false/\K (.ifc t x)
theorem ok_iface {o:Oper} {env:Env} {H:Heap} {K:Env->Heap->Prop} {t:TypeId} {x:Operand} (ho:o.op= .makeInterface t x)
  (h:ifaceK P t (evO env x) (fun v=>putK nt o.dst v env (fun env'=>K env' H))):OpOK P w0 nt o env H K:=by
 refine bqo _ ?_ h
 clear h
 intro w F M a r er K' h
 obtain ⟨hi,k⟩:=h
 refine ⟨_,.iface t (a.eval x),?_,.ifc (er.ev x),k⟩
 unfold aqr at hi
 split at hi
 ·cases hi
 ·cases hi
 ·rename_i d hn1 hn2
  cases hd:P.underlying t with
  | none=>exact absurd hd hn2
  | some d=>
   have hu:=run_underlying hd w
   cases d with
   | interface ms=>exact absurd hd (hn1 ms)
   | _=>simp [execOp,ho,Instr.makeInterface,hu]
def iq0 (P:Program) (t:TypeId) (ok:Bool) (x:AV) (K:AV->Prop):Prop:=
 match x with
 | .ifc t' v=>ok=false/\aqr P t=false/\t'=t/\K v
 | _=>False
theorem VR.ifc_inv {F:Ft} {M:Mt} {t:TypeId} {v:AV} {cv:Value} (h:VR F M (.ifc t v) cv):∃ u,cv= .iface t u/\VR F M v u:=by
 cases h with
 | ifc h=>exact ⟨_,rfl,h⟩
theorem ok_assert {o:Oper} {env:Env} {H:Heap} {K:Env->Heap->Prop} {xt t:TypeId} {ok:Bool} {x:Operand} (ho:o.op= .typeAssert x xt t ok)
  (h:iq0 P t ok (evO env x) (fun v=>putK nt o.dst v env (fun env'=>K env' H))):OpOK P w0 nt o env H K:=by
 refine bqo _ ?_ h
 clear h
 intro w F M a r er K' h
 have hx:=er.ev x
 revert h hx
 generalize evO env x=xv
 intro h hx
 unfold iq0 at h
 split at h
 ·rename_i t' v
  obtain ⟨hok,hi,rfl,k⟩:=h
  obtain ⟨u,hu,hv⟩:=hx.ifc_inv
  refine ⟨v,u,?_,hv,k⟩
  subst hok
  unfold aqr at hi
  split at hi
  ·cases hi
  ·cases hi
  ·rename_i d hn1 hn2
   cases hd:P.underlying t' with
   | none=>exact absurd hd hn2
   | some d=>
    have hun:=run_underlying hd w
    cases d with
    | interface ms=>exact absurd hd (hn1 ms)
    | _=>simp [execOp,ho,Instr.typeAssert,hun,hu]
 ·exact h.elim
def funcK (fn:Fn) (first caps:List AV) (K:AV->Prop):Prop:=
 match fn with
 | .func f=>K (.clo f first caps)
 | _=>False
theorem VRL_ops {F:Ft} {M:Mt} {env:Env} {a:Act} (er:EnvR F M nt env a) (xs:Array Operand):VRL F M (xs.toList.map (evO env)) (xs.map a.eval).toList:=by
 rw [Array.toList_map]
 exact VRL.map _ fun x _=>er.ev x
theorem ok_makeFunc {o:Oper} {env:Env} {H:Heap} {K:Env->Heap->Prop} {fn:Fn} {first caps:Array Operand} (ho:o.op= .makeFunc fn first caps)
  (h:funcK fn (first.toList.map (evO env)) (caps.toList.map (evO env)) (fun v=>putK nt o.dst v env (fun env'=>K env' H))):OpOK P w0 nt o env H K:=by
 refine bqo _ ?_ h
 clear h
 intro w F M a r er K' h
 unfold funcK at h
 split at h
 ·rename_i f
  have h1:=VRL_ops er first
  have h2:=VRL_ops er caps
  obtain ⟨ff,g1,g2⟩:=h1.fn
  obtain ⟨gg,g3,g4⟩:=h2.fn
  exact ⟨_,.func (.func f) (first.map a.eval) (caps.map a.eval),by simp [execOp,ho,Instr.makeFunc],.clo ff gg (by simp) (by simp) (by simpa using g1) g2 (by simpa using g3) g4,h⟩
 ·exact h.elim
def jql (pl:Nat->Option (Nat×Nat)) (cells:List AV):List (Nat×AV)->(List AV->Prop)->Prop
 | [],K=>K cells
 | (i,v)::rest,K=>match pl i with
  | some (off,size)=>v.cellsOne/\v.cells.length=size/\off+size<=cells.length/\jql pl (setL cells off v.cells) rest K
  | none=>False
theorem foldl_set (l:List Value):∀ (k:Nat) (cs:Array Value) (off:Nat),off+k+l.length<=cs.size->
  (l.zipIdx k).foldl (fun cs (p:Value×Nat)=>cs.setIfInBounds (off+p.2) p.1) cs=(cs.toList.take (off+k)++l++cs.toList.drop (off+k+l.length)).toArray:=by
 induction l with
 | nil=>intro k cs off _;simp
 | cons v l ih=>
  intro k cs off h
  simp only [List.length_cons] at h
  simp only [List.zipIdx_cons,List.foldl_cons]
  rw [ih (k+1) _ off (by simp;omega)]
  have e:=list_seg_step cs.toList (off+k) v l (by simp;omega)
  rw [Array.toList_setIfInBounds]
  rw [show off+(k+1)=off+k+1 by omega]
  simp only [List.length_cons]
  rw [e]
theorem fillA_ok {F:Ft} {M:Mt} {pl:Nat->Option (Nat×Nat)} {K:List AV->Prop}:∀ (parts:List (Nat×AV)) (cparts:List (Nat×Value)) (cells:List AV) (cs:Array Value),
  cparts.length=parts.length->(∀ (i n:Nat) (av:AV),parts[i]? =some (n,av)->∃ cv,cparts[i]? =some (n,cv)/\VR F M av cv)->
  VRC F M cells cs 0->cs.size=cells.length->jql pl cells parts K->
  ∃ cells' cs',Instr.fill pl cs cparts=some cs'/\VRC F M cells' cs' 0/\cs'.size=cells'.length/\cells'.length=cells.length/\K cells':=by
 intro parts
 induction parts with
 | nil=>
  intro cparts cells cs hl _ hC hs h
  have:cparts=[]:=List.eq_nil_of_length_eq_zero hl
  subst this
  exact ⟨cells,cs,rfl,hC,hs,rfl,h⟩
 | cons p parts ih=>
  obtain ⟨n,av⟩:=p
  intro cparts cells cs hl hp hC hs h
  cases cparts with
  | nil=>simp at hl
  | cons q cparts=>
   obtain ⟨cv,hq,hv⟩:=hp 0 n av rfl
   simp at hq;subst hq
   simp only [jql] at h
   split at h
   ·rename_i off size hpl
    obtain ⟨hone,hlen,hfit,h⟩:=h
    have hvl:=hv.cellsVRL hone
    have hcl:cv.cells.size=av.cells.length:=hv.cellsSize hone
    have hfold:cv.cells.zipIdx.foldl (fun cs (c,j)=>cs.setIfInBounds (off+j) c) cs=(cs.toList.take (0+off)++cv.cells.toList++cs.toList.drop (0+off+cv.cells.toList.length)).toArray:=by
     rw [<-Array.foldl_toList,Array.toList_zipIdx]
     have:=foldl_set cv.cells.toList 0 cs off (by simp;omega)
     simp only [Nat.add_zero] at this
     rw [Nat.zero_add]
     exact this
    have hC':=VRC.setL (off:=off) hC hvl (hv.cellsOne' hone) (by omega) (by omega)
    rw [<-hfold] at hC'
    obtain ⟨cells',cs',h1,h2,h3,h4,h5⟩:=ih cparts (setL cells off av.cells) _ (by simpa using hl) (fun i m x hx=>by
     obtain ⟨c,hc,hvc⟩:=hp (i+1) m x (by simpa using hx);exact ⟨c,by simpa using hc,hvc⟩) hC' (by
      rw [hfold,eq5];simp;omega) h
    refine ⟨cells',cs',?_,h2,h3,by rw [h4,eq5],h5⟩
    simp only [Instr.fill,hpl]
    have hne:(cv.cells.size≠size||off+cv.cells.size>cs.size)=false:=by
     simp only [ne_eq,Bool.or_eq_false_iff,decide_eq_false_iff_not]
     omega
    rw [if_neg (by rw [hne];simp)]
    exact h1
   ·exact h.elim
def buildK (P:Program) (t:TypeId) (parts:List (Nat×AV)) (K:AV->Prop):Prop:=
 aggr P t=true/\(match P.underlying t with | some (.struct fs)=>fs.toList.all (fun f=>0<sz P f.type)=true | some (.array _ e)=>0<sz P e | _=>False)/\
 match zer P t with
 | some zs=>zs.all Value.oneCell'=true/\jql (bqd P t) (gq9 zs) parts (fun cells=>K (.agg cells))
 | none=>False
theorem mapM_places {fs:List Field} (h:fs.all (fun f=>0<sz P f.type)=true) (w:World):
  (List.mapM (m:=Sem) (fun f=>do pure (f.offset,<-sizeOf f.type)) fs).run P w= .ok (fs.map fun f=>(f.offset,sz P f.type)) w:=by
 induction fs with
 | nil=>rfl
 | cons f fs ih=>
  simp only [List.all_cons,Bool.and_eq_true,decide_eq_true_eq] at h
  simp only [List.mapM_cons,Sem.run_bind,aq0 h.1,Result.andThen_ok,Sem.run_pure,ih h.2,List.map_cons]
theorem ok_build {o:Oper} {env:Env} {H:Heap} {K:Env->Heap->Prop} {t:TypeId} {parts:Array (Nat×Operand)} (ho:o.op= .build t parts)
  (h:buildK P t (parts.toList.map fun p=>(p.1,evO env p.2)) (fun v=>putK nt o.dst v env (fun env'=>K env' H))):OpOK P w0 nt o env H K:=by
 refine bqo _ ?_ h
 clear h
 intro w F M a r er K' h
 obtain ⟨_,hsz,h⟩:=h
 split at h
 ·rename_i zs hz
  obtain ⟨i,z,hi,hzz,hcs⟩:=jqy hz
  obtain ⟨hone,h⟩:=h
  have hzc:z.cells=zs.toArray:=by rw [<-hcs]
  obtain ⟨cells',cs',h1,h2,h3,_,k⟩:=fillA_ok (F:=F) (M:=M) _ (parts.toList.map fun p=>(p.1,a.eval p.2)) (gq9 zs) zs.toArray (by simp) (fun j n av hj=>by
   simp only [List.getElem?_map] at hj ⊢
   cases hp:parts.toList[j]? with
   | none=>simp [hp] at hj
   | some p=>
    simp [hp] at hj
    obtain ⟨rfl,rfl⟩:=hj
    exact ⟨a.eval p.2,by simp,er.ev p.2⟩) (mqi F M hone) (by simp [gq9]) h
  obtain ⟨ff,g1,g2,g3⟩:=h2.fn
  refine ⟨_,.agg cs',?_,.agg ff h3 (by simpa using g1) g2 g3,k⟩
  have hzv:(zeroValue t).run P w= .ok z w:=by simp [zeroValue,typeInfo,hi,hzz]
  cases hu:P.underlying t with
  | none=>rw [hu] at hsz;exact hsz.elim
  | some d=>
   have hru:=run_underlying hu w
   rw [hu] at hsz
   cases d with
   | struct fs=>
    have hmap:=mapM_places hsz w
    have hpl:(fun i=>((fs.toList.map fun f=>(f.offset,sz P f.type)).toArray)[i]?)=bqd P t:=by
     funext i;simp [bqd,hu]
    simp only [execOp,ho,Instr.build,Sem.run_bind,hzv,Result.andThen_ok,hru,Array.mapM_eq_mapM_toList,Sem.run_map,hmap,Array.toList_map]
    simp only [hpl,hzc,h1,Sem.run_pure,Result.andThen_ok]
   | array n e=>
    have hpl:(fun i=>some (i*sz P e,sz P e))=bqd P t:=by
     funext i;simp [bqd,hu]
    simp only [execOp,ho,Instr.build,Sem.run_bind,hzv,Result.andThen_ok,hru,aq0 hsz,Array.toList_map]
    simp only [hpl,hzc,h1,Sem.run_pure,Result.andThen_ok]
   | _=>exact hsz.elim
 ·exact h.elim
end
end Go.Am
