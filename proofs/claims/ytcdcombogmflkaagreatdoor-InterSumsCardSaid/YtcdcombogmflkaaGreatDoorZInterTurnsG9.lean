/- Contracts and plain laws that the law InterTurnsG needs, part 9. -/
import Derived.Test.YtcdcombogmflkaaGreatDoorZInterTurnsG8
import Derived.Scope
namespace Go.Am
open Go
set_option linter.unusedVariables false
section
variable {P:Program} {w0:World} {nt:Nat}
theorem awp_scope {c:Code} {Q:Exit->Env->Heap->Prop} {env:Env} {H:Heap} (hg:∀ l env H,¬Q (.goto l) env H) (h:AWP P w0 nt c Q env H):AWP P w0 nt (.scope c) Q env H:=by
 intro w F M a r er
 refine wp_scope_straight (Code.wp_mono ?_ (h w F M a r er))
 rintro e a' w' ⟨env',H',F',M',x1,r',er',q⟩
 cases e with
 | goto l=>exact hg l _ _ q
 | _=>exact ⟨env',H',F',M',x1,r',er',q⟩
theorem nqu {c:Code} {ts:List Tmp} {K:AV->Heap->Prop} {env:Env} {H:Heap} (h:AWP P w0 nt c (eqn ts K) env H):AWP P w0 nt (.scope c) (eqn ts K) env H:=
 awp_scope (fun _ _ _ q=>q) h
instance {c:Code} {ts:List Tmp} {K:AV->Heap->Prop} {env:Env} {H:Heap}:Stp (AWP P w0 nt (.scope c) (eqn ts K) env H) (AWP P w0 nt c (eqn ts K) env H):=⟨nqu⟩
end
section
variable {w0:World}
theorem runD_evalD {P:Program} {nt:Nat} {own st:List Nat} {ops:Array Oper}:∀ (L:List Nat) {env:Env} {H:Heap} {K:Env->Heap->Prop},dq4 P w0 nt own st ops (L.filterMap fun i=>ops[i]?) env H K->runD P w0 nt own st ops L env H K:=by
 intro L
 induction L with
 | nil=>intro env H K h;exact h
 | cons i L ih=>
  intro env H K h
  rw [List.filterMap_cons] at h
  rw [runD]
  cases e:ops[i]? with
  | none=>rw [e] at h;exact ih h
  | some o=>
   rw [e] at h
   exact cq2 h fun _ _ k=>ih k
theorem bqu {P:Program} {nt:Nat} (hm:P.follows .mixedOrders=true) (own st L:List Nat) {id:Nat} {l:List Oper} {y:Code} {Q:Exit->Env->Heap->Prop} {env:Env} {H:Heap} (hok:fqh own st nt l.toArray L=true)
  (h:∀ K:Env->Heap->Prop,(∀ e h,AWP P w0 nt y Q e h->K e h)->dq4 P w0 nt own st l.toArray (L.filterMap fun i=>l[i]?) env H K):AWP P w0 nt (.seq (.region id l.toArray true) y) Q env H:=
 w_draw_order hm own st L hok fun K hK=>runD_evalD L (by simpa using h K hK)
theorem iqp {H:Heap} {r x:Nat} {k:Blk} (h:H r=none) (hx:H x=some k):r≠x:=fun e=>by subst e;rw [h] at hx;cases hx
theorem fqb {H H':Heap} {r:Nat} (s:Sub H H') (h:H' r=none):H r=none:=by
 cases e:H r with
 | none=>rfl
 | some k=>rw [s r k e] at h;cases h
theorem upd_free {H:Heap} {r x:Nat} {k:Blk} {b:Option Blk} (h:H r=none) (hx:H x=some k):upd H r b x=some k:=by
 rw [aqm _ _ _ (Ne.symm (iqp h hx)),hx]
end
end Go.Am
