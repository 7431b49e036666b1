/- WHAT IS PROVED: for every input the law InterSums returns true, and leaves what it was given as it was. The package variable errors.errorType is tied to the program's text. -/
import Derived.Test.YtcdcombogmflkaaGreatDoorRows
import Derived.Test.YtcdcombogmflkaaGreatDoorTie
import Derived.Test.YtcdcombogmflkaaGreatDoorCards
import Derived.Test.YtcdcombogmflkaaGreatDoorZInterTurnsG14
import Derived.WalkKit
import Derived.ProofKit
namespace Go.Proofs.YtcdcombogmflkaaGreatDoor.interSums
open Go Go.Am Go.RowKit Go.ChangeShapes Go.WideShapes
set_option linter.unusedVariables false

set_option maxRecDepth 100000 in
theorem walks (H:Type) (enc:TypeId×Value->H):Walks H enc Tryz.prog 13 [23]:=
 walks1 (fun w0=>arg_mats Tryz.underlying23 (fqq Tryz.underlying25 rfl rfl rfl rfl rfl rfl (by kernel_rfl) (by kernel_rfl) (by kernel_rfl) (by kernel_rfl) (by kernel_rfl) (by kernel_rfl) (by kernel_rfl) (by kernel_rfl) Tryz.underlying3 Tryz.underlying3 Tryz.underlying3 Tryz.underlying3 (eqr Tryz.underlying22 Tryz.underlying26 Tryz.underlying3 (by decide +kernel) (by kernel_rfl) (by decide +kernel) (by kernel_rfl)) (fun l h=>⟨Nat.le_trans h.1 (by decide),fun r hr=>Nat.le_trans (h.2 r hr).1 (by decide)⟩) Tryz.underlying23) (by kernel_rfl) (by kernel_rfl)) (fun _ l h=>nqe h.1 h.2)
def laid : List (String × DataW Unit) := [("errors.errorType", Rows.laid_errors_errorType)]
set_option maxRecDepth 100000 in
theorem signs : ∃ r, behindMainWord (wordsSigns Tryz.prog.initOrder.toList) = "cut".toList :: r := mqr rfl (by kernel_rfl)
theorem later:Tryz.prog.laysLater=false:=by kernel_rfl
theorem refl:Tryz.prog.bearsReflect=false:=by kernel_rfl
theorem doors : (Tryz.prog.doorRows.any fun n => ["(look 8)", "(look 8, test files too)", "(list 7)", "(look 7)"].any (endsIn · n)) = false := by kernel_rfl
noncomputable def laidWorld (os:Os):World:=
 let w0:=World.holding Tryz.prog os ⟨#[],#[],[]⟩
 { w0 with heap:=w0.heap.modify 0 fun
   | .cells _ t frozen=> .cells #[.iface 169 (.agg #[typeHandle Tryz.prog 111])] t frozen
   | o=>o }
theorem laidWorld_met (os:Os) (args:Array Value):laidMetH Tryz.prog laid ((laidWorld os).forCall (fun _ _=>0) ⟨#[],args,[]⟩).memory:=
 laidMetH_of_parts (laidMet_nil _ _) (by kernel_rfl)
set_option maxRecDepth 100000 in
theorem lifted (os:Os) (started:os.Started) (H:Type) (enc:TypeId×Value->H):
  ReturnsInHanded {} Tryz.checked os 13 .any (fun w args=>(Rows.interSumsSpec.pre enc Tryz.prog Tryz.f13 Rows.interSumsRow.domain false w args/\laidMetH Tryz.prog laid w)/\sizedMet enc Tryz.prog Tryz.f13 (OpenSpec.ofChange Rows.interSumsSpec) false w args) (Rows.interSumsSpec.post enc Tryz.prog Tryz.f13 false true false false):=
 nqb (C:=Tryz.checked) (laid:=laid) (ts:=[23]) (rt:=4) (by kernel_rfl) started (by kernel_rfl) Tryz.func13 (by rw [Tryz.params13]) (by rfl) Tryz.underlying4 rfl
  (fun ds h=>match ds,h with | [d0],_=>rfl) (by kernel_rfl) (by kernel_rfl)
  (ChangeSpec.witness_at (enc:=enc) (C:=Tryz.checked) (os:=os) (X:=fun w _=>laidMetH Tryz.prog laid w) false (laidWorld os) #[.slice none 0 0] 8 rfl (by kernel_rfl) (by kernel_rfl) (by kernel_rfl) (by kernel_rfl) (by kernel_rfl) (laidWorld_met os _)) (walks H enc)
theorem closed:joinedFacts Tryz.prog 13 Tryz.f13 Rows.interSumsSpec Rows.interSumsRow=true:=by
 unfold joinedFacts
 rw [eq8 signs later refl doors,mq9 signs,eqk signs]
 kernel_rfl
theorem over:Rows.interSumsRow.holds Tryz.pinned (OpenSpec.ofChange Rows.interSumsSpec):=
 OpenClaim.holds_of_wide 13 Tryz.f13 rfl rfl rfl rfl rfl rfl rfl ⟨rfl,rfl,rfl,rfl,rfl⟩ rfl rfl rfl rfl rfl (by kernel_rfl) Tryz.func13 closed
  (of_decide_eq_true (by kernel_rfl)) (by unfold Func.isWrapper;first | (rw [if_pos (by decide +kernel)];kernel_rfl) | (rw [if_neg (by decide +kernel)];exact ⟨rfl,rfl⟩))
  (fun os started H enc _=>lifted os started H enc)
set_option maxRecDepth 100000 in
theorem card:Rows.InterSumsCardSaid:=
 Claim7.holds_tied_plain_at .later [] [.handle] true (true, "99565a86e08b40f764b1d708e4dbc50f70915568942898c8e203dd24f15d80cd") true
  over (fun _ h=>by cases h) (by kernel_rfl) (fun _ h=>by cases h) interSums_row_tie rfl ⟨rfl,rfl⟩ (kqk rfl rfl (by kernel_rfl)) rfl
  (fun f fn hf hfn=>by
   obtain rfl : f = 13 := Option.some.inj ((show Tryz.prog.funcNamed "greenwood/greenwoodlaw14.InterSums" = some 13 by kernel_rfl).symm.trans hf) |>.symm
   obtain rfl:fn=Tryz.f13:=(Option.some.inj (Tryz.func13.symm.trans hfn)).symm
   exact ⟨by kernel_rfl,fun j t ht=>by
    rw [Tryz.params13] at ht
    have hm:t∈[23]:=by simpa using Array.mem_of_getElem? ht
    have hall:([23].all fun u=> !Tryz.prog.wantsStandIn u)=true:=by kernel_rfl
    exact (show Tryz.prog.wantsStandIn t=false by simpa using List.all_eq_true.1 hall t hm)⟩)
  (by kernel_rfl)
#print axioms card
end Go.Proofs.YtcdcombogmflkaaGreatDoor.interSums
namespace Go.Proofs.YtcdcombogmflkaaGreatDoor
theorem interSums_card_holds:Rows.InterSumsCardSaid:=interSums.card
end Go.Proofs.YtcdcombogmflkaaGreatDoor
