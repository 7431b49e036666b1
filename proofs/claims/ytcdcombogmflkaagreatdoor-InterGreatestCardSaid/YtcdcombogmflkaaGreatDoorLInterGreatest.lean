/- WHAT IS PROVED: for every input the law InterGreatest returns true, and leaves what it was given as it was. The package variable errors.errorType is tied to the program's text. -/
import Derived.Test.YtcdcombogmflkaaGreatDoorRows
import Derived.Test.YtcdcombogmflkaaGreatDoorTie
import Derived.Test.YtcdcombogmflkaaGreatDoorCards
import Derived.Test.YtcdcombogmflkaaGreatDoorZInterTurnsG14
import Derived.WalkKit
import Derived.ProofKit
namespace Go.Proofs.YtcdcombogmflkaaGreatDoor.interGreatest
open Go Go.Am Go.RowKit Go.ChangeShapes Go.WideShapes
set_option linter.unusedVariables false

set_option maxRecDepth 100000 in
theorem walks (H:Type) (enc:TypeId×Value->H):Walks H enc Tryz.prog 10 [25,25]:=
 walks2 (fun w0=>nqx ⟨_,Tryz.underlying25⟩ (fqq Tryz.underlying25 rfl rfl rfl rfl rfl rfl (by kernel_rfl) (by kernel_rfl) (by kernel_rfl) (by kernel_rfl) (by kernel_rfl) (by kernel_rfl) (by kernel_rfl) (by kernel_rfl) Tryz.underlying3 Tryz.underlying3 Tryz.underlying3 Tryz.underlying3 (eqr Tryz.underlying22 Tryz.underlying26 Tryz.underlying3 (by decide +kernel) (by kernel_rfl) (by decide +kernel) (by kernel_rfl)) (fun l h=>⟨Nat.le_trans h.1 (by decide),fun r hr=>Nat.le_trans (h.2 r hr).1 (by decide)⟩) Tryz.underlying23)) (fun w0=>nqx ⟨_,Tryz.underlying25⟩ (fqq Tryz.underlying25 rfl rfl rfl rfl rfl rfl (by kernel_rfl) (by kernel_rfl) (by kernel_rfl) (by kernel_rfl) (by kernel_rfl) (by kernel_rfl) (by kernel_rfl) (by kernel_rfl) Tryz.underlying3 Tryz.underlying3 Tryz.underlying3 Tryz.underlying3 (eqr Tryz.underlying22 Tryz.underlying26 Tryz.underlying3 (by decide +kernel) (by kernel_rfl) (by decide +kernel) (by kernel_rfl)) (fun l h=>⟨Nat.le_trans h.1 (by decide),fun r hr=>Nat.le_trans (h.2 r hr).1 (by decide)⟩) Tryz.underlying23)) (fun _ x y hx hy=>iqs hx hy)
def laid : List (String × DataW Unit) := [("errors.errorType", Rows.laid_errors_errorType)]
set_option maxRecDepth 100000 in
theorem signs : ∃ r, behindMainWord (wordsSigns Tryz.prog.initOrder.toList) = "cut".toList :: r := mqr rfl (by kernel_rfl)
theorem later:Tryz.prog.laysLater=false:=by kernel_rfl
theorem refl:Tryz.prog.bearsReflect=false:=by kernel_rfl
theorem doors : (Tryz.prog.doorRows.any fun n => ["(look 8)", "(look 8, test files too)", "(list 7)", "(look 7)"].any (endsIn · n)) = false := by kernel_rfl
noncomputable def laidWorld (os:Os):World:=
 let w0:=World.holding Tryz.prog os ⟨#[],#[],[]⟩
 { w0 with heap:=w0.heap.modify 0 fun
   | .cells _ t frozen=> .cells #[.iface 169 (.agg #[typeHandle Tryz.prog 111])] t frozen
   | o=>o }
theorem laidWorld_met (os:Os) (args:Array Value):laidMetH Tryz.prog laid ((laidWorld os).forCall (fun _ _=>0) ⟨#[],args,[]⟩).memory:=
 laidMetH_of_parts (laidMet_nil _ _) (by kernel_rfl)
set_option maxRecDepth 100000 in
theorem lifted (os:Os) (started:os.Started) (H:Type) (enc:TypeId×Value->H):
  ReturnsInHanded {} Tryz.checked os 10 .any (fun w args=>(Rows.interGreatestSpec.pre enc Tryz.prog Tryz.f10 Rows.interGreatestRow.domain false w args/\laidMetH Tryz.prog laid w)/\sizedMet enc Tryz.prog Tryz.f10 (OpenSpec.ofChange Rows.interGreatestSpec) false w args) (Rows.interGreatestSpec.post enc Tryz.prog Tryz.f10 false true false false):=
 nqb (C:=Tryz.checked) (laid:=laid) (ts:=[25,25]) (rt:=4) (by kernel_rfl) started (by kernel_rfl) Tryz.func10 (by rw [Tryz.params10]) (by rfl) Tryz.underlying4 rfl
  (fun ds h=>match ds,h with | [d0,d1],_=>rfl) (by kernel_rfl) (by kernel_rfl)
  (ChangeSpec.witness_at (enc:=enc) (C:=Tryz.checked) (os:=os) (X:=fun w _=>laidMetH Tryz.prog laid w) false (laidWorld os) #[.agg #[.int .i64 0,.int .i64 0,.int .i64 0,.int .i64 0,.slice none 0 0,.slice none 0 0],.agg #[.int .i64 0,.int .i64 0,.int .i64 0,.int .i64 0,.slice none 0 0,.slice none 0 0]] 8 rfl (by kernel_rfl) (by kernel_rfl) (by kernel_rfl) (by kernel_rfl) (by kernel_rfl) (laidWorld_met os _)) (walks H enc)
theorem closed:joinedFacts Tryz.prog 10 Tryz.f10 Rows.interGreatestSpec Rows.interGreatestRow=true:=by
 unfold joinedFacts
 rw [eq8 signs later refl doors,mq9 signs,eqk signs]
 kernel_rfl
theorem over:Rows.interGreatestRow.holds Tryz.pinned (OpenSpec.ofChange Rows.interGreatestSpec):=
 OpenClaim.holds_of_wide 10 Tryz.f10 rfl rfl rfl rfl rfl rfl rfl ⟨rfl,rfl,rfl,rfl,rfl⟩ rfl rfl rfl rfl rfl (by kernel_rfl) Tryz.func10 closed
  (of_decide_eq_true (by kernel_rfl)) (by unfold Func.isWrapper;first | (rw [if_pos (by decide +kernel)];kernel_rfl) | (rw [if_neg (by decide +kernel)];exact ⟨rfl,rfl⟩))
  (fun os started H enc _=>lifted os started H enc)
set_option maxRecDepth 100000 in
theorem card:Rows.InterGreatestCardSaid:=
 Claim7.holds_tied_plain_at .later [] [.handle] true (true, "99565a86e08b40f764b1d708e4dbc50f70915568942898c8e203dd24f15d80cd") true
  over (fun _ h=>by cases h) (by kernel_rfl) (fun _ h=>by cases h) interGreatest_row_tie rfl ⟨rfl,rfl⟩ (kqk rfl rfl (by kernel_rfl)) rfl
  (fun f fn hf hfn=>by
   obtain rfl : f = 10 := Option.some.inj ((show Tryz.prog.funcNamed "greenwood/greenwoodlaw14.InterGreatest" = some 10 by kernel_rfl).symm.trans hf) |>.symm
   obtain rfl:fn=Tryz.f10:=(Option.some.inj (Tryz.func10.symm.trans hfn)).symm
   exact ⟨by kernel_rfl,fun j t ht=>by
    rw [Tryz.params10] at ht
    have hm:t∈[25,25]:=by simpa using Array.mem_of_getElem? ht
    have hall:([25,25].all fun u=> !Tryz.prog.wantsStandIn u)=true:=by kernel_rfl
    exact (show Tryz.prog.wantsStandIn t=false by simpa using List.all_eq_true.1 hall t hm)⟩)
  (by kernel_rfl)
#print axioms card
end Go.Proofs.YtcdcombogmflkaaGreatDoor.interGreatest
namespace Go.Proofs.YtcdcombogmflkaaGreatDoor
theorem interGreatest_card_holds:Rows.InterGreatestCardSaid:=interGreatest.card
end Go.Proofs.YtcdcombogmflkaaGreatDoor
