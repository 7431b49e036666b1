/-
  NARROWER THAN 'FOR EVERY INPUT', by the rows' own cells (each row's printed sentence says how): SwapTells: loops, laid · SwapAugments: loops, laid · SwapStuck: loops, laid · SwapBack: loops, laid · SwapNone: loops, laid · SwapSame: loops, laid · InterTells: loops, laid · InterGreatest: loops, laid · InterTurns: loops, laid · InterMatching: laid · InterSums: loops, laid · SplitTells: loops, laid · SplitHeaviest: loops, laid · SplitShifts: loops, laid · SplitNone: loops, laid · SplitConcave: loops, laid.
  DERIVED. THE GIVEN ROWS OF THIS SEAT. 16 by the template 'for every input the law returns true; each argument reads behind the call as it read before'; 0 by the template 'total and deterministic' (their statements: YtcdcombogmflkaaGreatDoorTotals.lean).
  GIVEN WITH THE SEED: the statements are not yours to turn. If you find one false, say at which input.
  Laid BY PROGRAM, IN A SANDBOX (cutbox-rows.mjs): the forced cells as the released guide's own fill.sh prints them over the translation cda107bd5d7dd621… (all of the seat's roots in one cut). By AI agents, Wed Nov 11 2026. No macro, syntax, notation, axiom, sorry.
-/
import Derived.Test.YtcdcombogmflkaaGreatDoorChecked
import GoSem.Claim
import GoSem.ClaimJoined
import GoSem.ClaimMapViews
import Derived.JoinedTies
import Derived.KernelRfl
namespace Go.Proofs.YtcdcombogmflkaaGreatDoor
/- THE CELL 'sum', in the pinned program and in every row, IS THE sha256 OF THE DUMP (.gsa) THAT YtcdcombogmflkaaGreatDoorProg.lean LOADS. Nothing in Lean hashes anything: it is a label: what it is worth is what the hold of that sum in a sandbox is worth. -/
noncomputable def Tryz.pinned : Pinned := { name := "ytcdcombogmflkaagreatdoor", sum := "cda107bd5d7dd621cf8efb993e37ed8cf8cc456fedfc3337b25f205e9d3ca0dd", checked := Tryz.checked }
namespace Rows
def none {H : Type} : Left H := { results := [], args := [] }

/- WHAT THE LISTED PACKAGE-LEVEL VARIABLES READ AS WHEN THE CALL BEGINS. Each datum BY PROGRAM (the guide's laid-datum.mjs) off the statement by which the dump's own 'gosem.cut.vars' lays the variable. In a bare row this is a premise. The card (YtcdcombogmflkaaGreatDoorCards.lean) ties it to the program's text. -/
def laid_errors_errorType {H : Type} : DataW H := .iface "internal/reflectlite.rtype" (.agg [.ptr (.lit (.string [101, 114, 114, 111, 114]))])

/-- 'greenwoodlaw13.SwapTells': WHATEVER THE INPUT: true; the input reads as it did. -/
def swapTellsSpec : ChangeSpec := { name := "swapTells", fn := fun _ => fun
  | [d1, d2, d3] => { results := [.lit (.bool true)], args := [d1, d2, d3] }
  | _ => none }
def swapTellsRow : OpenClaim := { program := "ytcdcombogmflkaagreatdoor", sum := "cda107bd5d7dd621cf8efb993e37ed8cf8cc456fedfc3337b25f205e9d3ca0dd", func := "greenwood/greenwoodlaw13.SwapTells", spec := "swapTells", inPlace := ["internal/reflectlite.TypeOf", "internal/reflectlite.ValueOf", "(internal/reflectlite.Value).Type", "(internal/reflectlite.Value).IsNil", "(internal/reflectlite.Value).Elem", "(internal/reflectlite.Value).Set"], unfollowed := true, recurses := true, named := ["errors.errorType"], loops := true, apart := false, laid := [("errors.errorType", laid_errors_errorType)] }
def SwapTellsSaid : Prop := swapTellsRow.holds Tryz.pinned (OpenSpec.ofChange swapTellsSpec)

/-- ITS FALSE NEIGHBOUR: 'it returns false'. Refute it at one input. -/
def swapTellsWrong : ChangeSpec := { name := "swapTells", fn := fun _ => fun
  | [d1, d2, d3] => { results := [.lit (.bool false)], args := [d1, d2, d3] }
  | _ => none }
def SwapTellsWrongFalsely : Prop := swapTellsRow.holds Tryz.pinned (OpenSpec.ofChange swapTellsWrong)

/-- 'greenwoodlaw13.SwapAugments': WHATEVER THE INPUT: true; the input reads as it did. -/
def swapAugmentsSpec : ChangeSpec := { name := "swapAugments", fn := fun _ => fun
  | [d1, d2, d3] => { results := [.lit (.bool true)], args := [d1, d2, d3] }
  | _ => none }
def swapAugmentsRow : OpenClaim := { program := "ytcdcombogmflkaagreatdoor", sum := "cda107bd5d7dd621cf8efb993e37ed8cf8cc456fedfc3337b25f205e9d3ca0dd", func := "greenwood/greenwoodlaw13.SwapAugments", spec := "swapAugments", inPlace := ["internal/reflectlite.TypeOf", "internal/reflectlite.ValueOf", "(internal/reflectlite.Value).Type", "(internal/reflectlite.Value).IsNil", "(internal/reflectlite.Value).Elem", "(internal/reflectlite.Value).Set"], unfollowed := true, recurses := true, named := ["errors.errorType"], loops := true, apart := false, laid := [("errors.errorType", laid_errors_errorType)] }
def SwapAugmentsSaid : Prop := swapAugmentsRow.holds Tryz.pinned (OpenSpec.ofChange swapAugmentsSpec)

/-- ITS FALSE NEIGHBOUR: 'it returns false'. Refute it at one input. -/
def swapAugmentsWrong : ChangeSpec := { name := "swapAugments", fn := fun _ => fun
  | [d1, d2, d3] => { results := [.lit (.bool false)], args := [d1, d2, d3] }
  | _ => none }
def SwapAugmentsWrongFalsely : Prop := swapAugmentsRow.holds Tryz.pinned (OpenSpec.ofChange swapAugmentsWrong)

/-- 'greenwoodlaw13.SwapStuck': WHATEVER THE INPUT: true; the input reads as it did. -/
def swapStuckSpec : ChangeSpec := { name := "swapStuck", fn := fun _ => fun
  | [d1, d2, d3] => { results := [.lit (.bool true)], args := [d1, d2, d3] }
  | _ => none }
def swapStuckRow : OpenClaim := { program := "ytcdcombogmflkaagreatdoor", sum := "cda107bd5d7dd621cf8efb993e37ed8cf8cc456fedfc3337b25f205e9d3ca0dd", func := "greenwood/greenwoodlaw13.SwapStuck", spec := "swapStuck", inPlace := ["internal/reflectlite.TypeOf", "internal/reflectlite.ValueOf", "(internal/reflectlite.Value).Type", "(internal/reflectlite.Value).IsNil", "(internal/reflectlite.Value).Elem", "(internal/reflectlite.Value).Set"], unfollowed := true, recurses := true, named := ["errors.errorType"], loops := true, apart := false, laid := [("errors.errorType", laid_errors_errorType)] }
def SwapStuckSaid : Prop := swapStuckRow.holds Tryz.pinned (OpenSpec.ofChange swapStuckSpec)

/-- ITS FALSE NEIGHBOUR: 'it returns false'. Refute it at one input. -/
def swapStuckWrong : ChangeSpec := { name := "swapStuck", fn := fun _ => fun
  | [d1, d2, d3] => { results := [.lit (.bool false)], args := [d1, d2, d3] }
  | _ => none }
def SwapStuckWrongFalsely : Prop := swapStuckRow.holds Tryz.pinned (OpenSpec.ofChange swapStuckWrong)

/-- 'greenwoodlaw13.SwapBack': WHATEVER THE INPUT: true; the input reads as it did. -/
def swapBackSpec : ChangeSpec := { name := "swapBack", fn := fun _ => fun
  | [d1, d2, d3] => { results := [.lit (.bool true)], args := [d1, d2, d3] }
  | _ => none }
def swapBackRow : OpenClaim := { program := "ytcdcombogmflkaagreatdoor", sum := "cda107bd5d7dd621cf8efb993e37ed8cf8cc456fedfc3337b25f205e9d3ca0dd", func := "greenwood/greenwoodlaw13.SwapBack", spec := "swapBack", inPlace := ["internal/reflectlite.TypeOf", "internal/reflectlite.ValueOf", "(internal/reflectlite.Value).Type", "(internal/reflectlite.Value).IsNil", "(internal/reflectlite.Value).Elem", "(internal/reflectlite.Value).Set"], unfollowed := true, recurses := true, named := ["errors.errorType"], loops := true, apart := false, laid := [("errors.errorType", laid_errors_errorType)] }
def SwapBackSaid : Prop := swapBackRow.holds Tryz.pinned (OpenSpec.ofChange swapBackSpec)

/-- ITS FALSE NEIGHBOUR: 'it returns false'. Refute it at one input. -/
def swapBackWrong : ChangeSpec := { name := "swapBack", fn := fun _ => fun
  | [d1, d2, d3] => { results := [.lit (.bool false)], args := [d1, d2, d3] }
  | _ => none }
def SwapBackWrongFalsely : Prop := swapBackRow.holds Tryz.pinned (OpenSpec.ofChange swapBackWrong)

/-- 'greenwoodlaw13.SwapNone': WHATEVER THE INPUT: true; the input reads as it did. -/
def swapNoneSpec : ChangeSpec := { name := "swapNone", fn := fun _ => fun
  | [d1, d2, d3] => { results := [.lit (.bool true)], args := [d1, d2, d3] }
  | _ => none }
def swapNoneRow : OpenClaim := { program := "ytcdcombogmflkaagreatdoor", sum := "cda107bd5d7dd621cf8efb993e37ed8cf8cc456fedfc3337b25f205e9d3ca0dd", func := "greenwood/greenwoodlaw13.SwapNone", spec := "swapNone", inPlace := ["internal/reflectlite.TypeOf", "internal/reflectlite.ValueOf", "(internal/reflectlite.Value).Type", "(internal/reflectlite.Value).IsNil", "(internal/reflectlite.Value).Elem", "(internal/reflectlite.Value).Set"], unfollowed := true, recurses := true, named := ["errors.errorType"], loops := true, apart := false, laid := [("errors.errorType", laid_errors_errorType)] }
def SwapNoneSaid : Prop := swapNoneRow.holds Tryz.pinned (OpenSpec.ofChange swapNoneSpec)

/-- ITS FALSE NEIGHBOUR: 'it returns false'. Refute it at one input. -/
def swapNoneWrong : ChangeSpec := { name := "swapNone", fn := fun _ => fun
  | [d1, d2, d3] => { results := [.lit (.bool false)], args := [d1, d2, d3] }
  | _ => none }
def SwapNoneWrongFalsely : Prop := swapNoneRow.holds Tryz.pinned (OpenSpec.ofChange swapNoneWrong)

/-- 'greenwoodlaw13.SwapSame': WHATEVER THE INPUT: true; the input reads as it did. -/
def swapSameSpec : ChangeSpec := { name := "swapSame", fn := fun _ => fun
  | [d1, d2] => { results := [.lit (.bool true)], args := [d1, d2] }
  | _ => none }
def swapSameRow : OpenClaim := { program := "ytcdcombogmflkaagreatdoor", sum := "cda107bd5d7dd621cf8efb993e37ed8cf8cc456fedfc3337b25f205e9d3ca0dd", func := "greenwood/greenwoodlaw13.SwapSame", spec := "swapSame", inPlace := ["internal/reflectlite.TypeOf", "internal/reflectlite.ValueOf", "(internal/reflectlite.Value).Type", "(internal/reflectlite.Value).IsNil", "(internal/reflectlite.Value).Elem", "(internal/reflectlite.Value).Set"], unfollowed := true, recurses := true, named := ["errors.errorType"], loops := true, apart := false, laid := [("errors.errorType", laid_errors_errorType)] }
def SwapSameSaid : Prop := swapSameRow.holds Tryz.pinned (OpenSpec.ofChange swapSameSpec)

/-- ITS FALSE NEIGHBOUR: 'it returns false'. Refute it at one input. -/
def swapSameWrong : ChangeSpec := { name := "swapSame", fn := fun _ => fun
  | [d1, d2] => { results := [.lit (.bool false)], args := [d1, d2] }
  | _ => none }
def SwapSameWrongFalsely : Prop := swapSameRow.holds Tryz.pinned (OpenSpec.ofChange swapSameWrong)

/-- 'greenwoodlaw14.InterTells': WHATEVER THE INPUT: true; the input reads as it did. -/
def interTellsSpec : ChangeSpec := { name := "interTells", fn := fun _ => fun
  | [d1, d2, d3] => { results := [.lit (.bool true)], args := [d1, d2, d3] }
  | _ => none }
def interTellsRow : OpenClaim := { program := "ytcdcombogmflkaagreatdoor", sum := "cda107bd5d7dd621cf8efb993e37ed8cf8cc456fedfc3337b25f205e9d3ca0dd", func := "greenwood/greenwoodlaw14.InterTells", spec := "interTells", inPlace := ["internal/reflectlite.TypeOf", "internal/reflectlite.ValueOf", "(internal/reflectlite.Value).Type", "(internal/reflectlite.Value).IsNil", "(internal/reflectlite.Value).Elem", "(internal/reflectlite.Value).Set"], unfollowed := true, recurses := true, named := ["errors.errorType"], loops := true, apart := false, laid := [("errors.errorType", laid_errors_errorType)] }
def InterTellsSaid : Prop := interTellsRow.holds Tryz.pinned (OpenSpec.ofChange interTellsSpec)

/-- ITS FALSE NEIGHBOUR: 'it returns false'. Refute it at one input. -/
def interTellsWrong : ChangeSpec := { name := "interTells", fn := fun _ => fun
  | [d1, d2, d3] => { results := [.lit (.bool false)], args := [d1, d2, d3] }
  | _ => none }
def InterTellsWrongFalsely : Prop := interTellsRow.holds Tryz.pinned (OpenSpec.ofChange interTellsWrong)

/-- 'greenwoodlaw14.InterGreatest': WHATEVER THE INPUT: true; the input reads as it did. -/
def interGreatestSpec : ChangeSpec := { name := "interGreatest", fn := fun _ => fun
  | [d1, d2] => { results := [.lit (.bool true)], args := [d1, d2] }
  | _ => none }
def interGreatestRow : OpenClaim := { program := "ytcdcombogmflkaagreatdoor", sum := "cda107bd5d7dd621cf8efb993e37ed8cf8cc456fedfc3337b25f205e9d3ca0dd", func := "greenwood/greenwoodlaw14.InterGreatest", spec := "interGreatest", inPlace := ["internal/reflectlite.TypeOf", "internal/reflectlite.ValueOf", "(internal/reflectlite.Value).Type", "(internal/reflectlite.Value).IsNil", "(internal/reflectlite.Value).Elem", "(internal/reflectlite.Value).Set"], unfollowed := true, recurses := true, named := ["errors.errorType"], loops := true, apart := false, laid := [("errors.errorType", laid_errors_errorType)] }
def InterGreatestSaid : Prop := interGreatestRow.holds Tryz.pinned (OpenSpec.ofChange interGreatestSpec)

/-- ITS FALSE NEIGHBOUR: 'it returns false'. Refute it at one input. -/
def interGreatestWrong : ChangeSpec := { name := "interGreatest", fn := fun _ => fun
  | [d1, d2] => { results := [.lit (.bool false)], args := [d1, d2] }
  | _ => none }
def InterGreatestWrongFalsely : Prop := interGreatestRow.holds Tryz.pinned (OpenSpec.ofChange interGreatestWrong)

/-- 'greenwoodlaw14.InterTurns': WHATEVER THE INPUT: true; the input reads as it did. -/
def interTurnsSpec : ChangeSpec := { name := "interTurns", fn := fun _ => fun
  | [d1, d2] => { results := [.lit (.bool true)], args := [d1, d2] }
  | _ => none }
def interTurnsRow : OpenClaim := { program := "ytcdcombogmflkaagreatdoor", sum := "cda107bd5d7dd621cf8efb993e37ed8cf8cc456fedfc3337b25f205e9d3ca0dd", func := "greenwood/greenwoodlaw14.InterTurns", spec := "interTurns", inPlace := ["internal/reflectlite.TypeOf", "internal/reflectlite.ValueOf", "(internal/reflectlite.Value).Type", "(internal/reflectlite.Value).IsNil", "(internal/reflectlite.Value).Elem", "(internal/reflectlite.Value).Set"], unfollowed := true, recurses := true, named := ["errors.errorType"], loops := true, apart := false, laid := [("errors.errorType", laid_errors_errorType)] }
def InterTurnsSaid : Prop := interTurnsRow.holds Tryz.pinned (OpenSpec.ofChange interTurnsSpec)

/-- ITS FALSE NEIGHBOUR: 'it returns false'. Refute it at one input. -/
def interTurnsWrong : ChangeSpec := { name := "interTurns", fn := fun _ => fun
  | [d1, d2] => { results := [.lit (.bool false)], args := [d1, d2] }
  | _ => none }
def InterTurnsWrongFalsely : Prop := interTurnsRow.holds Tryz.pinned (OpenSpec.ofChange interTurnsWrong)

/-- 'greenwoodlaw14.InterMatching': WHATEVER THE INPUT: true; the input reads as it did. -/
def interMatchingSpec : ChangeSpec := { name := "interMatching", fn := fun _ => fun
  | [d] => { results := [.lit (.bool true)], args := [d] }
  | _ => none }
def interMatchingRow : OpenClaim := { program := "ytcdcombogmflkaagreatdoor", sum := "cda107bd5d7dd621cf8efb993e37ed8cf8cc456fedfc3337b25f205e9d3ca0dd", func := "greenwood/greenwoodlaw14.InterMatching", spec := "interMatching", inPlace := ["internal/reflectlite.TypeOf", "internal/reflectlite.ValueOf", "(internal/reflectlite.Value).Type", "(internal/reflectlite.Value).IsNil", "(internal/reflectlite.Value).Elem", "(internal/reflectlite.Value).Set"], unfollowed := true, recurses := true, named := ["errors.errorType"], apart := false, laid := [("errors.errorType", laid_errors_errorType)] }
def InterMatchingSaid : Prop := interMatchingRow.holds Tryz.pinned (OpenSpec.ofChange interMatchingSpec)

/-- ITS FALSE NEIGHBOUR: 'it returns false'. Refute it at one input. -/
def interMatchingWrong : ChangeSpec := { name := "interMatching", fn := fun _ => fun
  | [d] => { results := [.lit (.bool false)], args := [d] }
  | _ => none }
def InterMatchingWrongFalsely : Prop := interMatchingRow.holds Tryz.pinned (OpenSpec.ofChange interMatchingWrong)

/-- 'greenwoodlaw14.InterSums': WHATEVER THE INPUT: true; the input reads as it did. -/
def interSumsSpec : ChangeSpec := { name := "interSums", fn := fun _ => fun
  | [d] => { results := [.lit (.bool true)], args := [d] }
  | _ => none }
def interSumsRow : OpenClaim := { program := "ytcdcombogmflkaagreatdoor", sum := "cda107bd5d7dd621cf8efb993e37ed8cf8cc456fedfc3337b25f205e9d3ca0dd", func := "greenwood/greenwoodlaw14.InterSums", spec := "interSums", inPlace := ["internal/reflectlite.TypeOf", "internal/reflectlite.ValueOf", "(internal/reflectlite.Value).Type", "(internal/reflectlite.Value).IsNil", "(internal/reflectlite.Value).Elem", "(internal/reflectlite.Value).Set"], unfollowed := true, recurses := true, named := ["errors.errorType"], loops := true, apart := false, laid := [("errors.errorType", laid_errors_errorType)] }
def InterSumsSaid : Prop := interSumsRow.holds Tryz.pinned (OpenSpec.ofChange interSumsSpec)

/-- ITS FALSE NEIGHBOUR: 'it returns false'. Refute it at one input. -/
def interSumsWrong : ChangeSpec := { name := "interSums", fn := fun _ => fun
  | [d] => { results := [.lit (.bool false)], args := [d] }
  | _ => none }
def InterSumsWrongFalsely : Prop := interSumsRow.holds Tryz.pinned (OpenSpec.ofChange interSumsWrong)

/-- 'greenwoodlaw15.SplitTells': WHATEVER THE INPUT: true; the input reads as it did. -/
def splitTellsSpec : ChangeSpec := { name := "splitTells", fn := fun _ => fun
  | [d1, d2, d3] => { results := [.lit (.bool true)], args := [d1, d2, d3] }
  | _ => none }
def splitTellsRow : OpenClaim := { program := "ytcdcombogmflkaagreatdoor", sum := "cda107bd5d7dd621cf8efb993e37ed8cf8cc456fedfc3337b25f205e9d3ca0dd", func := "greenwood/greenwoodlaw15.SplitTells", spec := "splitTells", inPlace := ["internal/reflectlite.TypeOf", "internal/reflectlite.ValueOf", "(internal/reflectlite.Value).Type", "(internal/reflectlite.Value).IsNil", "(internal/reflectlite.Value).Elem", "(internal/reflectlite.Value).Set"], unfollowed := true, recurses := true, named := ["errors.errorType"], loops := true, apart := false, laid := [("errors.errorType", laid_errors_errorType)] }
def SplitTellsSaid : Prop := splitTellsRow.holds Tryz.pinned (OpenSpec.ofChange splitTellsSpec)

/-- ITS FALSE NEIGHBOUR: 'it returns false'. Refute it at one input. -/
def splitTellsWrong : ChangeSpec := { name := "splitTells", fn := fun _ => fun
  | [d1, d2, d3] => { results := [.lit (.bool false)], args := [d1, d2, d3] }
  | _ => none }
def SplitTellsWrongFalsely : Prop := splitTellsRow.holds Tryz.pinned (OpenSpec.ofChange splitTellsWrong)

/-- 'greenwoodlaw15.SplitHeaviest': WHATEVER THE INPUT: true; the input reads as it did. -/
def splitHeaviestSpec : ChangeSpec := { name := "splitHeaviest", fn := fun _ => fun
  | [d1, d2, d3] => { results := [.lit (.bool true)], args := [d1, d2, d3] }
  | _ => none }
def splitHeaviestRow : OpenClaim := { program := "ytcdcombogmflkaagreatdoor", sum := "cda107bd5d7dd621cf8efb993e37ed8cf8cc456fedfc3337b25f205e9d3ca0dd", func := "greenwood/greenwoodlaw15.SplitHeaviest", spec := "splitHeaviest", inPlace := ["internal/reflectlite.TypeOf", "internal/reflectlite.ValueOf", "(internal/reflectlite.Value).Type", "(internal/reflectlite.Value).IsNil", "(internal/reflectlite.Value).Elem", "(internal/reflectlite.Value).Set"], unfollowed := true, recurses := true, named := ["errors.errorType"], loops := true, apart := false, laid := [("errors.errorType", laid_errors_errorType)] }
def SplitHeaviestSaid : Prop := splitHeaviestRow.holds Tryz.pinned (OpenSpec.ofChange splitHeaviestSpec)

/-- ITS FALSE NEIGHBOUR: 'it returns false'. Refute it at one input. -/
def splitHeaviestWrong : ChangeSpec := { name := "splitHeaviest", fn := fun _ => fun
  | [d1, d2, d3] => { results := [.lit (.bool false)], args := [d1, d2, d3] }
  | _ => none }
def SplitHeaviestWrongFalsely : Prop := splitHeaviestRow.holds Tryz.pinned (OpenSpec.ofChange splitHeaviestWrong)

/-- 'greenwoodlaw15.SplitShifts': WHATEVER THE INPUT: true; the input reads as it did. -/
def splitShiftsSpec : ChangeSpec := { name := "splitShifts", fn := fun _ => fun
  | [d1, d2, d3] => { results := [.lit (.bool true)], args := [d1, d2, d3] }
  | _ => none }
def splitShiftsRow : OpenClaim := { program := "ytcdcombogmflkaagreatdoor", sum := "cda107bd5d7dd621cf8efb993e37ed8cf8cc456fedfc3337b25f205e9d3ca0dd", func := "greenwood/greenwoodlaw15.SplitShifts", spec := "splitShifts", inPlace := ["internal/reflectlite.TypeOf", "internal/reflectlite.ValueOf", "(internal/reflectlite.Value).Type", "(internal/reflectlite.Value).IsNil", "(internal/reflectlite.Value).Elem", "(internal/reflectlite.Value).Set"], unfollowed := true, recurses := true, named := ["errors.errorType"], loops := true, apart := false, laid := [("errors.errorType", laid_errors_errorType)] }
def SplitShiftsSaid : Prop := splitShiftsRow.holds Tryz.pinned (OpenSpec.ofChange splitShiftsSpec)

/-- ITS FALSE NEIGHBOUR: 'it returns false'. Refute it at one input. -/
def splitShiftsWrong : ChangeSpec := { name := "splitShifts", fn := fun _ => fun
  | [d1, d2, d3] => { results := [.lit (.bool false)], args := [d1, d2, d3] }
  | _ => none }
def SplitShiftsWrongFalsely : Prop := splitShiftsRow.holds Tryz.pinned (OpenSpec.ofChange splitShiftsWrong)

/-- 'greenwoodlaw15.SplitNone': WHATEVER THE INPUT: true; the input reads as it did. -/
def splitNoneSpec : ChangeSpec := { name := "splitNone", fn := fun _ => fun
  | [d1, d2, d3] => { results := [.lit (.bool true)], args := [d1, d2, d3] }
  | _ => none }
def splitNoneRow : OpenClaim := { program := "ytcdcombogmflkaagreatdoor", sum := "cda107bd5d7dd621cf8efb993e37ed8cf8cc456fedfc3337b25f205e9d3ca0dd", func := "greenwood/greenwoodlaw15.SplitNone", spec := "splitNone", inPlace := ["internal/reflectlite.TypeOf", "internal/reflectlite.ValueOf", "(internal/reflectlite.Value).Type", "(internal/reflectlite.Value).IsNil", "(internal/reflectlite.Value).Elem", "(internal/reflectlite.Value).Set"], unfollowed := true, recurses := true, named := ["errors.errorType"], loops := true, apart := false, laid := [("errors.errorType", laid_errors_errorType)] }
def SplitNoneSaid : Prop := splitNoneRow.holds Tryz.pinned (OpenSpec.ofChange splitNoneSpec)

/-- ITS FALSE NEIGHBOUR: 'it returns false'. Refute it at one input. -/
def splitNoneWrong : ChangeSpec := { name := "splitNone", fn := fun _ => fun
  | [d1, d2, d3] => { results := [.lit (.bool false)], args := [d1, d2, d3] }
  | _ => none }
def SplitNoneWrongFalsely : Prop := splitNoneRow.holds Tryz.pinned (OpenSpec.ofChange splitNoneWrong)

/-- 'greenwoodlaw15.SplitConcave': WHATEVER THE INPUT: true; the input reads as it did. -/
def splitConcaveSpec : ChangeSpec := { name := "splitConcave", fn := fun _ => fun
  | [d1, d2, d3] => { results := [.lit (.bool true)], args := [d1, d2, d3] }
  | _ => none }
def splitConcaveRow : OpenClaim := { program := "ytcdcombogmflkaagreatdoor", sum := "cda107bd5d7dd621cf8efb993e37ed8cf8cc456fedfc3337b25f205e9d3ca0dd", func := "greenwood/greenwoodlaw15.SplitConcave", spec := "splitConcave", inPlace := ["internal/reflectlite.TypeOf", "internal/reflectlite.ValueOf", "(internal/reflectlite.Value).Type", "(internal/reflectlite.Value).IsNil", "(internal/reflectlite.Value).Elem", "(internal/reflectlite.Value).Set"], unfollowed := true, recurses := true, named := ["errors.errorType"], loops := true, apart := false, laid := [("errors.errorType", laid_errors_errorType)] }
def SplitConcaveSaid : Prop := splitConcaveRow.holds Tryz.pinned (OpenSpec.ofChange splitConcaveSpec)

/-- ITS FALSE NEIGHBOUR: 'it returns false'. Refute it at one input. -/
def splitConcaveWrong : ChangeSpec := { name := "splitConcave", fn := fun _ => fun
  | [d1, d2, d3] => { results := [.lit (.bool false)], args := [d1, d2, d3] }
  | _ => none }
def SplitConcaveWrongFalsely : Prop := splitConcaveRow.holds Tryz.pinned (OpenSpec.ofChange splitConcaveWrong)

/- THE SECOND FORM. 'bulk': how many values and letters a reading holds, each counted each time it is reached (what is shared counts as often as it is met; a slice's spare places count too). A statement '..UptoSaid' is the law's where the arguments, and the package variables that the reading takes, are together of bulk at most 1048576: NARROWER than '..Said'. Prove '..Said' where nothing that the law and all that it calls make is longer than what came in: it says more and counts as full. Else prove '..UptoSaid'. A law counts once. -/
mutual
def uptoBulk {H : Type} : DataW H → Nat
  | .lit (.string bytes) => bytes.length + 1
  | .lit _ => 1
  | .nil => 1
  | .ptr d => uptoBulk d + 1
  | .slice elems spare => uptoBulkAll elems + uptoBulkAll spare + 1
  | .agg parts => uptoBulkAll parts + 1
  | .iface _ d => uptoBulk d + 1
  | .map entries => uptoBulkEntries entries + 1
  | .held _ => 1
def uptoBulkAll {H : Type} : List (DataW H) → Nat
  | [] => 0
  | d :: r => uptoBulk d + uptoBulkAll r
def uptoBulkEntries {H : Type} : List (Lit × DataW H) → Nat
  | [] => 0
  | x :: r => uptoBulkEntry x + uptoBulkEntries r
def uptoBulkEntry {H : Type} : Lit × DataW H → Nat
  | (.string bytes, d) => bytes.length + uptoBulk d + 1
  | (_, d) => uptoBulk d + 1
 end
def uptoSmall : (H : Type) → List (DataW H) → Bool := fun _ ds => decide (uptoBulkAll ds ≤ 1048576)
def OpenSpec.upto (s : _root_.Go.ChangeSpec) : _root_.Go.OpenSpec := { _root_.Go.OpenSpec.ofChange s with cond := some uptoSmall }

/-- 'greenwoodlaw13.SwapTells', WHERE WHAT IT READS IS OF BULK AT MOST 1048576: true; the input reads as it did. -/
def swapTellsUptoRow : OpenClaim := { program := "ytcdcombogmflkaagreatdoor", sum := "cda107bd5d7dd621cf8efb993e37ed8cf8cc456fedfc3337b25f205e9d3ca0dd", func := "greenwood/greenwoodlaw13.SwapTells", spec := "swapTells", inPlace := ["internal/reflectlite.TypeOf", "internal/reflectlite.ValueOf", "(internal/reflectlite.Value).Type", "(internal/reflectlite.Value).IsNil", "(internal/reflectlite.Value).Elem", "(internal/reflectlite.Value).Set"], unfollowed := true, recurses := true, named := ["errors.errorType"], loops := true, apart := false, laid := [("errors.errorType", laid_errors_errorType)], narrowed := true }
def SwapTellsUptoSaid : Prop := swapTellsUptoRow.holds Tryz.pinned (OpenSpec.upto swapTellsSpec)

/-- 'greenwoodlaw13.SwapAugments', WHERE WHAT IT READS IS OF BULK AT MOST 1048576: true; the input reads as it did. -/
def swapAugmentsUptoRow : OpenClaim := { program := "ytcdcombogmflkaagreatdoor", sum := "cda107bd5d7dd621cf8efb993e37ed8cf8cc456fedfc3337b25f205e9d3ca0dd", func := "greenwood/greenwoodlaw13.SwapAugments", spec := "swapAugments", inPlace := ["internal/reflectlite.TypeOf", "internal/reflectlite.ValueOf", "(internal/reflectlite.Value).Type", "(internal/reflectlite.Value).IsNil", "(internal/reflectlite.Value).Elem", "(internal/reflectlite.Value).Set"], unfollowed := true, recurses := true, named := ["errors.errorType"], loops := true, apart := false, laid := [("errors.errorType", laid_errors_errorType)], narrowed := true }
def SwapAugmentsUptoSaid : Prop := swapAugmentsUptoRow.holds Tryz.pinned (OpenSpec.upto swapAugmentsSpec)

/-- 'greenwoodlaw13.SwapStuck', WHERE WHAT IT READS IS OF BULK AT MOST 1048576: true; the input reads as it did. -/
def swapStuckUptoRow : OpenClaim := { program := "ytcdcombogmflkaagreatdoor", sum := "cda107bd5d7dd621cf8efb993e37ed8cf8cc456fedfc3337b25f205e9d3ca0dd", func := "greenwood/greenwoodlaw13.SwapStuck", spec := "swapStuck", inPlace := ["internal/reflectlite.TypeOf", "internal/reflectlite.ValueOf", "(internal/reflectlite.Value).Type", "(internal/reflectlite.Value).IsNil", "(internal/reflectlite.Value).Elem", "(internal/reflectlite.Value).Set"], unfollowed := true, recurses := true, named := ["errors.errorType"], loops := true, apart := false, laid := [("errors.errorType", laid_errors_errorType)], narrowed := true }
def SwapStuckUptoSaid : Prop := swapStuckUptoRow.holds Tryz.pinned (OpenSpec.upto swapStuckSpec)

/-- 'greenwoodlaw13.SwapBack', WHERE WHAT IT READS IS OF BULK AT MOST 1048576: true; the input reads as it did. -/
def swapBackUptoRow : OpenClaim := { program := "ytcdcombogmflkaagreatdoor", sum := "cda107bd5d7dd621cf8efb993e37ed8cf8cc456fedfc3337b25f205e9d3ca0dd", func := "greenwood/greenwoodlaw13.SwapBack", spec := "swapBack", inPlace := ["internal/reflectlite.TypeOf", "internal/reflectlite.ValueOf", "(internal/reflectlite.Value).Type", "(internal/reflectlite.Value).IsNil", "(internal/reflectlite.Value).Elem", "(internal/reflectlite.Value).Set"], unfollowed := true, recurses := true, named := ["errors.errorType"], loops := true, apart := false, laid := [("errors.errorType", laid_errors_errorType)], narrowed := true }
def SwapBackUptoSaid : Prop := swapBackUptoRow.holds Tryz.pinned (OpenSpec.upto swapBackSpec)

/-- 'greenwoodlaw13.SwapNone', WHERE WHAT IT READS IS OF BULK AT MOST 1048576: true; the input reads as it did. -/
def swapNoneUptoRow : OpenClaim := { program := "ytcdcombogmflkaagreatdoor", sum := "cda107bd5d7dd621cf8efb993e37ed8cf8cc456fedfc3337b25f205e9d3ca0dd", func := "greenwood/greenwoodlaw13.SwapNone", spec := "swapNone", inPlace := ["internal/reflectlite.TypeOf", "internal/reflectlite.ValueOf", "(internal/reflectlite.Value).Type", "(internal/reflectlite.Value).IsNil", "(internal/reflectlite.Value).Elem", "(internal/reflectlite.Value).Set"], unfollowed := true, recurses := true, named := ["errors.errorType"], loops := true, apart := false, laid := [("errors.errorType", laid_errors_errorType)], narrowed := true }
def SwapNoneUptoSaid : Prop := swapNoneUptoRow.holds Tryz.pinned (OpenSpec.upto swapNoneSpec)

/-- 'greenwoodlaw13.SwapSame', WHERE WHAT IT READS IS OF BULK AT MOST 1048576: true; the input reads as it did. -/
def swapSameUptoRow : OpenClaim := { program := "ytcdcombogmflkaagreatdoor", sum := "cda107bd5d7dd621cf8efb993e37ed8cf8cc456fedfc3337b25f205e9d3ca0dd", func := "greenwood/greenwoodlaw13.SwapSame", spec := "swapSame", inPlace := ["internal/reflectlite.TypeOf", "internal/reflectlite.ValueOf", "(internal/reflectlite.Value).Type", "(internal/reflectlite.Value).IsNil", "(internal/reflectlite.Value).Elem", "(internal/reflectlite.Value).Set"], unfollowed := true, recurses := true, named := ["errors.errorType"], loops := true, apart := false, laid := [("errors.errorType", laid_errors_errorType)], narrowed := true }
def SwapSameUptoSaid : Prop := swapSameUptoRow.holds Tryz.pinned (OpenSpec.upto swapSameSpec)

/-- 'greenwoodlaw14.InterTells', WHERE WHAT IT READS IS OF BULK AT MOST 1048576: true; the input reads as it did. -/
def interTellsUptoRow : OpenClaim := { program := "ytcdcombogmflkaagreatdoor", sum := "cda107bd5d7dd621cf8efb993e37ed8cf8cc456fedfc3337b25f205e9d3ca0dd", func := "greenwood/greenwoodlaw14.InterTells", spec := "interTells", inPlace := ["internal/reflectlite.TypeOf", "internal/reflectlite.ValueOf", "(internal/reflectlite.Value).Type", "(internal/reflectlite.Value).IsNil", "(internal/reflectlite.Value).Elem", "(internal/reflectlite.Value).Set"], unfollowed := true, recurses := true, named := ["errors.errorType"], loops := true, apart := false, laid := [("errors.errorType", laid_errors_errorType)], narrowed := true }
def InterTellsUptoSaid : Prop := interTellsUptoRow.holds Tryz.pinned (OpenSpec.upto interTellsSpec)

/-- 'greenwoodlaw14.InterGreatest', WHERE WHAT IT READS IS OF BULK AT MOST 1048576: true; the input reads as it did. -/
def interGreatestUptoRow : OpenClaim := { program := "ytcdcombogmflkaagreatdoor", sum := "cda107bd5d7dd621cf8efb993e37ed8cf8cc456fedfc3337b25f205e9d3ca0dd", func := "greenwood/greenwoodlaw14.InterGreatest", spec := "interGreatest", inPlace := ["internal/reflectlite.TypeOf", "internal/reflectlite.ValueOf", "(internal/reflectlite.Value).Type", "(internal/reflectlite.Value).IsNil", "(internal/reflectlite.Value).Elem", "(internal/reflectlite.Value).Set"], unfollowed := true, recurses := true, named := ["errors.errorType"], loops := true, apart := false, laid := [("errors.errorType", laid_errors_errorType)], narrowed := true }
def InterGreatestUptoSaid : Prop := interGreatestUptoRow.holds Tryz.pinned (OpenSpec.upto interGreatestSpec)

/-- 'greenwoodlaw14.InterTurns', WHERE WHAT IT READS IS OF BULK AT MOST 1048576: true; the input reads as it did. -/
def interTurnsUptoRow : OpenClaim := { program := "ytcdcombogmflkaagreatdoor", sum := "cda107bd5d7dd621cf8efb993e37ed8cf8cc456fedfc3337b25f205e9d3ca0dd", func := "greenwood/greenwoodlaw14.InterTurns", spec := "interTurns", inPlace := ["internal/reflectlite.TypeOf", "internal/reflectlite.ValueOf", "(internal/reflectlite.Value).Type", "(internal/reflectlite.Value).IsNil", "(internal/reflectlite.Value).Elem", "(internal/reflectlite.Value).Set"], unfollowed := true, recurses := true, named := ["errors.errorType"], loops := true, apart := false, laid := [("errors.errorType", laid_errors_errorType)], narrowed := true }
def InterTurnsUptoSaid : Prop := interTurnsUptoRow.holds Tryz.pinned (OpenSpec.upto interTurnsSpec)

/-- 'greenwoodlaw14.InterMatching', WHERE WHAT IT READS IS OF BULK AT MOST 1048576: true; the input reads as it did. -/
def interMatchingUptoRow : OpenClaim := { program := "ytcdcombogmflkaagreatdoor", sum := "cda107bd5d7dd621cf8efb993e37ed8cf8cc456fedfc3337b25f205e9d3ca0dd", func := "greenwood/greenwoodlaw14.InterMatching", spec := "interMatching", inPlace := ["internal/reflectlite.TypeOf", "internal/reflectlite.ValueOf", "(internal/reflectlite.Value).Type", "(internal/reflectlite.Value).IsNil", "(internal/reflectlite.Value).Elem", "(internal/reflectlite.Value).Set"], unfollowed := true, recurses := true, named := ["errors.errorType"], apart := false, laid := [("errors.errorType", laid_errors_errorType)], narrowed := true }
def InterMatchingUptoSaid : Prop := interMatchingUptoRow.holds Tryz.pinned (OpenSpec.upto interMatchingSpec)

/-- 'greenwoodlaw14.InterSums', WHERE WHAT IT READS IS OF BULK AT MOST 1048576: true; the input reads as it did. -/
def interSumsUptoRow : OpenClaim := { program := "ytcdcombogmflkaagreatdoor", sum := "cda107bd5d7dd621cf8efb993e37ed8cf8cc456fedfc3337b25f205e9d3ca0dd", func := "greenwood/greenwoodlaw14.InterSums", spec := "interSums", inPlace := ["internal/reflectlite.TypeOf", "internal/reflectlite.ValueOf", "(internal/reflectlite.Value).Type", "(internal/reflectlite.Value).IsNil", "(internal/reflectlite.Value).Elem", "(internal/reflectlite.Value).Set"], unfollowed := true, recurses := true, named := ["errors.errorType"], loops := true, apart := false, laid := [("errors.errorType", laid_errors_errorType)], narrowed := true }
def InterSumsUptoSaid : Prop := interSumsUptoRow.holds Tryz.pinned (OpenSpec.upto interSumsSpec)

/-- 'greenwoodlaw15.SplitTells', WHERE WHAT IT READS IS OF BULK AT MOST 1048576: true; the input reads as it did. -/
def splitTellsUptoRow : OpenClaim := { program := "ytcdcombogmflkaagreatdoor", sum := "cda107bd5d7dd621cf8efb993e37ed8cf8cc456fedfc3337b25f205e9d3ca0dd", func := "greenwood/greenwoodlaw15.SplitTells", spec := "splitTells", inPlace := ["internal/reflectlite.TypeOf", "internal/reflectlite.ValueOf", "(internal/reflectlite.Value).Type", "(internal/reflectlite.Value).IsNil", "(internal/reflectlite.Value).Elem", "(internal/reflectlite.Value).Set"], unfollowed := true, recurses := true, named := ["errors.errorType"], loops := true, apart := false, laid := [("errors.errorType", laid_errors_errorType)], narrowed := true }
def SplitTellsUptoSaid : Prop := splitTellsUptoRow.holds Tryz.pinned (OpenSpec.upto splitTellsSpec)

/-- 'greenwoodlaw15.SplitHeaviest', WHERE WHAT IT READS IS OF BULK AT MOST 1048576: true; the input reads as it did. -/
def splitHeaviestUptoRow : OpenClaim := { program := "ytcdcombogmflkaagreatdoor", sum := "cda107bd5d7dd621cf8efb993e37ed8cf8cc456fedfc3337b25f205e9d3ca0dd", func := "greenwood/greenwoodlaw15.SplitHeaviest", spec := "splitHeaviest", inPlace := ["internal/reflectlite.TypeOf", "internal/reflectlite.ValueOf", "(internal/reflectlite.Value).Type", "(internal/reflectlite.Value).IsNil", "(internal/reflectlite.Value).Elem", "(internal/reflectlite.Value).Set"], unfollowed := true, recurses := true, named := ["errors.errorType"], loops := true, apart := false, laid := [("errors.errorType", laid_errors_errorType)], narrowed := true }
def SplitHeaviestUptoSaid : Prop := splitHeaviestUptoRow.holds Tryz.pinned (OpenSpec.upto splitHeaviestSpec)

/-- 'greenwoodlaw15.SplitShifts', WHERE WHAT IT READS IS OF BULK AT MOST 1048576: true; the input reads as it did. -/
def splitShiftsUptoRow : OpenClaim := { program := "ytcdcombogmflkaagreatdoor", sum := "cda107bd5d7dd621cf8efb993e37ed8cf8cc456fedfc3337b25f205e9d3ca0dd", func := "greenwood/greenwoodlaw15.SplitShifts", spec := "splitShifts", inPlace := ["internal/reflectlite.TypeOf", "internal/reflectlite.ValueOf", "(internal/reflectlite.Value).Type", "(internal/reflectlite.Value).IsNil", "(internal/reflectlite.Value).Elem", "(internal/reflectlite.Value).Set"], unfollowed := true, recurses := true, named := ["errors.errorType"], loops := true, apart := false, laid := [("errors.errorType", laid_errors_errorType)], narrowed := true }
def SplitShiftsUptoSaid : Prop := splitShiftsUptoRow.holds Tryz.pinned (OpenSpec.upto splitShiftsSpec)

/-- 'greenwoodlaw15.SplitNone', WHERE WHAT IT READS IS OF BULK AT MOST 1048576: true; the input reads as it did. -/
def splitNoneUptoRow : OpenClaim := { program := "ytcdcombogmflkaagreatdoor", sum := "cda107bd5d7dd621cf8efb993e37ed8cf8cc456fedfc3337b25f205e9d3ca0dd", func := "greenwood/greenwoodlaw15.SplitNone", spec := "splitNone", inPlace := ["internal/reflectlite.TypeOf", "internal/reflectlite.ValueOf", "(internal/reflectlite.Value).Type", "(internal/reflectlite.Value).IsNil", "(internal/reflectlite.Value).Elem", "(internal/reflectlite.Value).Set"], unfollowed := true, recurses := true, named := ["errors.errorType"], loops := true, apart := false, laid := [("errors.errorType", laid_errors_errorType)], narrowed := true }
def SplitNoneUptoSaid : Prop := splitNoneUptoRow.holds Tryz.pinned (OpenSpec.upto splitNoneSpec)

/-- 'greenwoodlaw15.SplitConcave', WHERE WHAT IT READS IS OF BULK AT MOST 1048576: true; the input reads as it did. -/
def splitConcaveUptoRow : OpenClaim := { program := "ytcdcombogmflkaagreatdoor", sum := "cda107bd5d7dd621cf8efb993e37ed8cf8cc456fedfc3337b25f205e9d3ca0dd", func := "greenwood/greenwoodlaw15.SplitConcave", spec := "splitConcave", inPlace := ["internal/reflectlite.TypeOf", "internal/reflectlite.ValueOf", "(internal/reflectlite.Value).Type", "(internal/reflectlite.Value).IsNil", "(internal/reflectlite.Value).Elem", "(internal/reflectlite.Value).Set"], unfollowed := true, recurses := true, named := ["errors.errorType"], loops := true, apart := false, laid := [("errors.errorType", laid_errors_errorType)], narrowed := true }
def SplitConcaveUptoSaid : Prop := splitConcaveUptoRow.holds Tryz.pinned (OpenSpec.upto splitConcaveSpec)

end Rows
end Go.Proofs.YtcdcombogmflkaaGreatDoor
