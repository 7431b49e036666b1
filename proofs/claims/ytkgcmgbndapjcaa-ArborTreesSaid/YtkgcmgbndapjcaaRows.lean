/-
  No cell of these rows narrows 'for every input' (looked for: loops, veiled, ifaces, maps, wideKeys, modest, calm, conditions, laid).
  DERIVED. THE GIVEN ROWS OF THIS SEAT. 10 by the template 'for every input the law returns true; each argument reads behind the call as it read before'; 0 by the template 'total and deterministic' (their statements: YtkgcmgbndapjcaaTotals.lean).
  GIVEN WITH THE SEED: the statements are not yours to turn. If you find one false, say at which input.
  Laid BY PROGRAM, IN A SANDBOX (cutbox-rows.mjs): the forced cells as the released guide's own fill.sh prints them over the translation b3775a8c8c7ffb9b… (all of the seat's roots in one cut). By AI agents, Wed Nov 11 2026. No macro, syntax, notation, axiom, sorry.
-/
import Derived.Test.YtkgcmgbndapjcaaChecked
import GoSem.Claim
import GoSem.ClaimJoined
import GoSem.ClaimMapViews
import Derived.JoinedTies
import Derived.KernelRfl
namespace Go.Proofs.Ytkgcmgbndapjcaa
/- THE CELL 'sum', in the pinned program and in every row, IS THE sha256 OF THE DUMP (.gsa) THAT YtkgcmgbndapjcaaProg.lean LOADS. Nothing in Lean hashes anything: it is a label: what it is worth is what the hold of that sum in a sandbox is worth. -/
noncomputable def Try.pinned : Pinned := { name := "ytkgcmgbndapjcaa", sum := "b3775a8c8c7ffb9baeb022c4a50907cb4ba0d172d2e63fe6c7614415b98bab7a", checked := Try.checked }
namespace Rows
def none {H : Type} : Left H := { results := [], args := [] }

/-- 'greenwoodlaw20.ArcsTell': WHATEVER THE INPUT: true; the input reads as it did. -/
def arcsTellSpec : ChangeSpec := { name := "arcsTell", fn := fun _ => fun
  | [d1, d2] => { results := [.lit (.bool true)], args := [d1, d2] }
  | _ => none }
def arcsTellRow : OpenClaim := { program := "ytkgcmgbndapjcaa", sum := "b3775a8c8c7ffb9baeb022c4a50907cb4ba0d172d2e63fe6c7614415b98bab7a", func := "greenwood/greenwoodlaw20.ArcsTell", spec := "arcsTell", recurses := true, apart := false }
def ArcsTellSaid : Prop := arcsTellRow.holds Try.pinned (OpenSpec.ofChange arcsTellSpec)

/-- ITS FALSE NEIGHBOUR: 'it returns false'. Refute it at one input. -/
def arcsTellWrong : ChangeSpec := { name := "arcsTell", fn := fun _ => fun
  | [d1, d2] => { results := [.lit (.bool false)], args := [d1, d2] }
  | _ => none }
def ArcsTellWrongFalsely : Prop := arcsTellRow.holds Try.pinned (OpenSpec.ofChange arcsTellWrong)

/-- 'greenwoodlaw20.ArcsCertified': WHATEVER THE INPUT: true; the input reads as it did. -/
def arcsCertifiedSpec : ChangeSpec := { name := "arcsCertified", fn := fun _ => fun
  | [d] => { results := [.lit (.bool true)], args := [d] }
  | _ => none }
def arcsCertifiedRow : OpenClaim := { program := "ytkgcmgbndapjcaa", sum := "b3775a8c8c7ffb9baeb022c4a50907cb4ba0d172d2e63fe6c7614415b98bab7a", func := "greenwood/greenwoodlaw20.ArcsCertified", spec := "arcsCertified", recurses := true, apart := false }
def ArcsCertifiedSaid : Prop := arcsCertifiedRow.holds Try.pinned (OpenSpec.ofChange arcsCertifiedSpec)

/-- ITS FALSE NEIGHBOUR: 'it returns false'. Refute it at one input. -/
def arcsCertifiedWrong : ChangeSpec := { name := "arcsCertified", fn := fun _ => fun
  | [d] => { results := [.lit (.bool false)], args := [d] }
  | _ => none }
def ArcsCertifiedWrongFalsely : Prop := arcsCertifiedRow.holds Try.pinned (OpenSpec.ofChange arcsCertifiedWrong)

/-- 'greenwoodlaw20.ArcsFlow': WHATEVER THE INPUT: true; the input reads as it did. -/
def arcsFlowSpec : ChangeSpec := { name := "arcsFlow", fn := fun _ => fun
  | [d1, d2, d3] => { results := [.lit (.bool true)], args := [d1, d2, d3] }
  | _ => none }
def arcsFlowRow : OpenClaim := { program := "ytkgcmgbndapjcaa", sum := "b3775a8c8c7ffb9baeb022c4a50907cb4ba0d172d2e63fe6c7614415b98bab7a", func := "greenwood/greenwoodlaw20.ArcsFlow", spec := "arcsFlow", recurses := true, apart := false }
def ArcsFlowSaid : Prop := arcsFlowRow.holds Try.pinned (OpenSpec.ofChange arcsFlowSpec)

/-- ITS FALSE NEIGHBOUR: 'it returns false'. Refute it at one input. -/
def arcsFlowWrong : ChangeSpec := { name := "arcsFlow", fn := fun _ => fun
  | [d1, d2, d3] => { results := [.lit (.bool false)], args := [d1, d2, d3] }
  | _ => none }
def ArcsFlowWrongFalsely : Prop := arcsFlowRow.holds Try.pinned (OpenSpec.ofChange arcsFlowWrong)

/-- 'greenwoodlaw20.ArcsSteps': WHATEVER THE INPUT: true; the input reads as it did. -/
def arcsStepsSpec : ChangeSpec := { name := "arcsSteps", fn := fun _ => fun
  | [d1, d2, d3] => { results := [.lit (.bool true)], args := [d1, d2, d3] }
  | _ => none }
def arcsStepsRow : OpenClaim := { program := "ytkgcmgbndapjcaa", sum := "b3775a8c8c7ffb9baeb022c4a50907cb4ba0d172d2e63fe6c7614415b98bab7a", func := "greenwood/greenwoodlaw20.ArcsSteps", spec := "arcsSteps", recurses := true, apart := false }
def ArcsStepsSaid : Prop := arcsStepsRow.holds Try.pinned (OpenSpec.ofChange arcsStepsSpec)

/-- ITS FALSE NEIGHBOUR: 'it returns false'. Refute it at one input. -/
def arcsStepsWrong : ChangeSpec := { name := "arcsSteps", fn := fun _ => fun
  | [d1, d2, d3] => { results := [.lit (.bool false)], args := [d1, d2, d3] }
  | _ => none }
def ArcsStepsWrongFalsely : Prop := arcsStepsRow.holds Try.pinned (OpenSpec.ofChange arcsStepsWrong)

/-- 'greenwoodlaw20.ArcsParallel': WHATEVER THE INPUT: true; the input reads as it did. -/
def arcsParallelSpec : ChangeSpec := { name := "arcsParallel", fn := fun _ => fun
  | [d1, d2] => { results := [.lit (.bool true)], args := [d1, d2] }
  | _ => none }
def arcsParallelRow : OpenClaim := { program := "ytkgcmgbndapjcaa", sum := "b3775a8c8c7ffb9baeb022c4a50907cb4ba0d172d2e63fe6c7614415b98bab7a", func := "greenwood/greenwoodlaw20.ArcsParallel", spec := "arcsParallel", recurses := true, apart := false }
def ArcsParallelSaid : Prop := arcsParallelRow.holds Try.pinned (OpenSpec.ofChange arcsParallelSpec)

/-- ITS FALSE NEIGHBOUR: 'it returns false'. Refute it at one input. -/
def arcsParallelWrong : ChangeSpec := { name := "arcsParallel", fn := fun _ => fun
  | [d1, d2] => { results := [.lit (.bool false)], args := [d1, d2] }
  | _ => none }
def ArcsParallelWrongFalsely : Prop := arcsParallelRow.holds Try.pinned (OpenSpec.ofChange arcsParallelWrong)

/-- 'greenwoodlaw20.ArcsEnds': WHATEVER THE INPUT: true; the input reads as it did. -/
def arcsEndsSpec : ChangeSpec := { name := "arcsEnds", fn := fun _ => fun
  | [d1, d2] => { results := [.lit (.bool true)], args := [d1, d2] }
  | _ => none }
def arcsEndsRow : OpenClaim := { program := "ytkgcmgbndapjcaa", sum := "b3775a8c8c7ffb9baeb022c4a50907cb4ba0d172d2e63fe6c7614415b98bab7a", func := "greenwood/greenwoodlaw20.ArcsEnds", spec := "arcsEnds", recurses := true, apart := false }
def ArcsEndsSaid : Prop := arcsEndsRow.holds Try.pinned (OpenSpec.ofChange arcsEndsSpec)

/-- ITS FALSE NEIGHBOUR: 'it returns false'. Refute it at one input. -/
def arcsEndsWrong : ChangeSpec := { name := "arcsEnds", fn := fun _ => fun
  | [d1, d2] => { results := [.lit (.bool false)], args := [d1, d2] }
  | _ => none }
def ArcsEndsWrongFalsely : Prop := arcsEndsRow.holds Try.pinned (OpenSpec.ofChange arcsEndsWrong)

/-- 'greenwoodlaw19.ArborCheapest': WHATEVER THE INPUT: true; the input reads as it did. -/
def arborCheapestSpec : ChangeSpec := { name := "arborCheapest", fn := fun _ => fun
  | [d] => { results := [.lit (.bool true)], args := [d] }
  | _ => none }
def arborCheapestRow : OpenClaim := { program := "ytkgcmgbndapjcaa", sum := "b3775a8c8c7ffb9baeb022c4a50907cb4ba0d172d2e63fe6c7614415b98bab7a", func := "greenwood/greenwoodlaw19.ArborCheapest", spec := "arborCheapest", unfollowed := true, recurses := true, apart := false }
def ArborCheapestSaid : Prop := arborCheapestRow.holds Try.pinned (OpenSpec.ofChange arborCheapestSpec)

/-- ITS FALSE NEIGHBOUR: 'it returns false'. Refute it at one input. -/
def arborCheapestWrong : ChangeSpec := { name := "arborCheapest", fn := fun _ => fun
  | [d] => { results := [.lit (.bool false)], args := [d] }
  | _ => none }
def ArborCheapestWrongFalsely : Prop := arborCheapestRow.holds Try.pinned (OpenSpec.ofChange arborCheapestWrong)

/-- 'greenwoodlaw19.ArborShifts': WHATEVER THE INPUT: true; the input reads as it did. -/
def arborShiftsSpec : ChangeSpec := { name := "arborShifts", fn := fun _ => fun
  | [d1, d2, d3] => { results := [.lit (.bool true)], args := [d1, d2, d3] }
  | _ => none }
def arborShiftsRow : OpenClaim := { program := "ytkgcmgbndapjcaa", sum := "b3775a8c8c7ffb9baeb022c4a50907cb4ba0d172d2e63fe6c7614415b98bab7a", func := "greenwood/greenwoodlaw19.ArborShifts", spec := "arborShifts", unfollowed := true, recurses := true, apart := false }
def ArborShiftsSaid : Prop := arborShiftsRow.holds Try.pinned (OpenSpec.ofChange arborShiftsSpec)

/-- ITS FALSE NEIGHBOUR: 'it returns false'. Refute it at one input. -/
def arborShiftsWrong : ChangeSpec := { name := "arborShifts", fn := fun _ => fun
  | [d1, d2, d3] => { results := [.lit (.bool false)], args := [d1, d2, d3] }
  | _ => none }
def ArborShiftsWrongFalsely : Prop := arborShiftsRow.holds Try.pinned (OpenSpec.ofChange arborShiftsWrong)

/-- 'greenwoodlaw19.ArborTrees': WHATEVER THE INPUT: true; the input reads as it did. -/
def arborTreesSpec : ChangeSpec := { name := "arborTrees", fn := fun _ => fun
  | [d1, d2] => { results := [.lit (.bool true)], args := [d1, d2] }
  | _ => none }
def arborTreesRow : OpenClaim := { program := "ytkgcmgbndapjcaa", sum := "b3775a8c8c7ffb9baeb022c4a50907cb4ba0d172d2e63fe6c7614415b98bab7a", func := "greenwood/greenwoodlaw19.ArborTrees", spec := "arborTrees", unfollowed := true, recurses := true, apart := false }
def ArborTreesSaid : Prop := arborTreesRow.holds Try.pinned (OpenSpec.ofChange arborTreesSpec)

/-- ITS FALSE NEIGHBOUR: 'it returns false'. Refute it at one input. -/
def arborTreesWrong : ChangeSpec := { name := "arborTrees", fn := fun _ => fun
  | [d1, d2] => { results := [.lit (.bool false)], args := [d1, d2] }
  | _ => none }
def ArborTreesWrongFalsely : Prop := arborTreesRow.holds Try.pinned (OpenSpec.ofChange arborTreesWrong)

/-- 'greenwoodlaw19.ArborAll': WHATEVER THE INPUT: true; the input reads as it did. -/
def arborAllSpec : ChangeSpec := { name := "arborAll", fn := fun _ => fun
  | [d1, d2] => { results := [.lit (.bool true)], args := [d1, d2] }
  | _ => none }
def arborAllRow : OpenClaim := { program := "ytkgcmgbndapjcaa", sum := "b3775a8c8c7ffb9baeb022c4a50907cb4ba0d172d2e63fe6c7614415b98bab7a", func := "greenwood/greenwoodlaw19.ArborAll", spec := "arborAll", unfollowed := true, recurses := true, apart := false }
def ArborAllSaid : Prop := arborAllRow.holds Try.pinned (OpenSpec.ofChange arborAllSpec)

/-- ITS FALSE NEIGHBOUR: 'it returns false'. Refute it at one input. -/
def arborAllWrong : ChangeSpec := { name := "arborAll", fn := fun _ => fun
  | [d1, d2] => { results := [.lit (.bool false)], args := [d1, d2] }
  | _ => none }
def ArborAllWrongFalsely : Prop := arborAllRow.holds Try.pinned (OpenSpec.ofChange arborAllWrong)

/- THE SECOND FORM. 'bulk': how many values and letters a reading holds, each counted each time it is reached (what is shared counts as often as it is met; a slice's spare places count too). A statement '..UptoSaid' is the law's where the arguments, and the package variables that the reading takes, are together of bulk at most 1048576: NARROWER than '..Said'. Prove '..Said' where nothing that the law and all that it calls make is longer than what came in: it says more and counts as full. Else prove '..UptoSaid'. A law counts once. -/
mutual
def uptoBulk {H : Type} : DataW H → Nat
  | .lit (.string bytes) => bytes.length + 1
  | .lit _ => 1
  | .nil => 1
  | .ptr d => uptoBulk d + 1
  | .slice elems spare => uptoBulkAll elems + uptoBulkAll spare + 1
  | .agg parts => uptoBulkAll parts + 1
  | .iface _ d => uptoBulk d + 1
  | .map entries => uptoBulkEntries entries + 1
  | .held _ => 1
def uptoBulkAll {H : Type} : List (DataW H) → Nat
  | [] => 0
  | d :: r => uptoBulk d + uptoBulkAll r
def uptoBulkEntries {H : Type} : List (Lit × DataW H) → Nat
  | [] => 0
  | x :: r => uptoBulkEntry x + uptoBulkEntries r
def uptoBulkEntry {H : Type} : Lit × DataW H → Nat
  | (.string bytes, d) => bytes.length + uptoBulk d + 1
  | (_, d) => uptoBulk d + 1
 end
def uptoSmall : (H : Type) → List (DataW H) → Bool := fun _ ds => decide (uptoBulkAll ds ≤ 1048576)
def OpenSpec.upto (s : _root_.Go.ChangeSpec) : _root_.Go.OpenSpec := { _root_.Go.OpenSpec.ofChange s with cond := some uptoSmall }

/-- 'greenwoodlaw20.ArcsTell', WHERE WHAT IT READS IS OF BULK AT MOST 1048576: true; the input reads as it did. -/
def arcsTellUptoRow : OpenClaim := { program := "ytkgcmgbndapjcaa", sum := "b3775a8c8c7ffb9baeb022c4a50907cb4ba0d172d2e63fe6c7614415b98bab7a", func := "greenwood/greenwoodlaw20.ArcsTell", spec := "arcsTell", recurses := true, apart := false, narrowed := true }
def ArcsTellUptoSaid : Prop := arcsTellUptoRow.holds Try.pinned (OpenSpec.upto arcsTellSpec)

/-- 'greenwoodlaw20.ArcsCertified', WHERE WHAT IT READS IS OF BULK AT MOST 1048576: true; the input reads as it did. -/
def arcsCertifiedUptoRow : OpenClaim := { program := "ytkgcmgbndapjcaa", sum := "b3775a8c8c7ffb9baeb022c4a50907cb4ba0d172d2e63fe6c7614415b98bab7a", func := "greenwood/greenwoodlaw20.ArcsCertified", spec := "arcsCertified", recurses := true, apart := false, narrowed := true }
def ArcsCertifiedUptoSaid : Prop := arcsCertifiedUptoRow.holds Try.pinned (OpenSpec.upto arcsCertifiedSpec)

/-- 'greenwoodlaw20.ArcsFlow', WHERE WHAT IT READS IS OF BULK AT MOST 1048576: true; the input reads as it did. -/
def arcsFlowUptoRow : OpenClaim := { program := "ytkgcmgbndapjcaa", sum := "b3775a8c8c7ffb9baeb022c4a50907cb4ba0d172d2e63fe6c7614415b98bab7a", func := "greenwood/greenwoodlaw20.ArcsFlow", spec := "arcsFlow", recurses := true, apart := false, narrowed := true }
def ArcsFlowUptoSaid : Prop := arcsFlowUptoRow.holds Try.pinned (OpenSpec.upto arcsFlowSpec)

/-- 'greenwoodlaw20.ArcsSteps', WHERE WHAT IT READS IS OF BULK AT MOST 1048576: true; the input reads as it did. -/
def arcsStepsUptoRow : OpenClaim := { program := "ytkgcmgbndapjcaa", sum := "b3775a8c8c7ffb9baeb022c4a50907cb4ba0d172d2e63fe6c7614415b98bab7a", func := "greenwood/greenwoodlaw20.ArcsSteps", spec := "arcsSteps", recurses := true, apart := false, narrowed := true }
def ArcsStepsUptoSaid : Prop := arcsStepsUptoRow.holds Try.pinned (OpenSpec.upto arcsStepsSpec)

/-- 'greenwoodlaw20.ArcsParallel', WHERE WHAT IT READS IS OF BULK AT MOST 1048576: true; the input reads as it did. -/
def arcsParallelUptoRow : OpenClaim := { program := "ytkgcmgbndapjcaa", sum := "b3775a8c8c7ffb9baeb022c4a50907cb4ba0d172d2e63fe6c7614415b98bab7a", func := "greenwood/greenwoodlaw20.ArcsParallel", spec := "arcsParallel", recurses := true, apart := false, narrowed := true }
def ArcsParallelUptoSaid : Prop := arcsParallelUptoRow.holds Try.pinned (OpenSpec.upto arcsParallelSpec)

/-- 'greenwoodlaw20.ArcsEnds', WHERE WHAT IT READS IS OF BULK AT MOST 1048576: true; the input reads as it did. -/
def arcsEndsUptoRow : OpenClaim := { program := "ytkgcmgbndapjcaa", sum := "b3775a8c8c7ffb9baeb022c4a50907cb4ba0d172d2e63fe6c7614415b98bab7a", func := "greenwood/greenwoodlaw20.ArcsEnds", spec := "arcsEnds", recurses := true, apart := false, narrowed := true }
def ArcsEndsUptoSaid : Prop := arcsEndsUptoRow.holds Try.pinned (OpenSpec.upto arcsEndsSpec)

/-- 'greenwoodlaw19.ArborCheapest', WHERE WHAT IT READS IS OF BULK AT MOST 1048576: true; the input reads as it did. -/
def arborCheapestUptoRow : OpenClaim := { program := "ytkgcmgbndapjcaa", sum := "b3775a8c8c7ffb9baeb022c4a50907cb4ba0d172d2e63fe6c7614415b98bab7a", func := "greenwood/greenwoodlaw19.ArborCheapest", spec := "arborCheapest", unfollowed := true, recurses := true, apart := false, narrowed := true }
def ArborCheapestUptoSaid : Prop := arborCheapestUptoRow.holds Try.pinned (OpenSpec.upto arborCheapestSpec)

/-- 'greenwoodlaw19.ArborShifts', WHERE WHAT IT READS IS OF BULK AT MOST 1048576: true; the input reads as it did. -/
def arborShiftsUptoRow : OpenClaim := { program := "ytkgcmgbndapjcaa", sum := "b3775a8c8c7ffb9baeb022c4a50907cb4ba0d172d2e63fe6c7614415b98bab7a", func := "greenwood/greenwoodlaw19.ArborShifts", spec := "arborShifts", unfollowed := true, recurses := true, apart := false, narrowed := true }
def ArborShiftsUptoSaid : Prop := arborShiftsUptoRow.holds Try.pinned (OpenSpec.upto arborShiftsSpec)

/-- 'greenwoodlaw19.ArborTrees', WHERE WHAT IT READS IS OF BULK AT MOST 1048576: true; the input reads as it did. -/
def arborTreesUptoRow : OpenClaim := { program := "ytkgcmgbndapjcaa", sum := "b3775a8c8c7ffb9baeb022c4a50907cb4ba0d172d2e63fe6c7614415b98bab7a", func := "greenwood/greenwoodlaw19.ArborTrees", spec := "arborTrees", unfollowed := true, recurses := true, apart := false, narrowed := true }
def ArborTreesUptoSaid : Prop := arborTreesUptoRow.holds Try.pinned (OpenSpec.upto arborTreesSpec)

/-- 'greenwoodlaw19.ArborAll', WHERE WHAT IT READS IS OF BULK AT MOST 1048576: true; the input reads as it did. -/
def arborAllUptoRow : OpenClaim := { program := "ytkgcmgbndapjcaa", sum := "b3775a8c8c7ffb9baeb022c4a50907cb4ba0d172d2e63fe6c7614415b98bab7a", func := "greenwood/greenwoodlaw19.ArborAll", spec := "arborAll", unfollowed := true, recurses := true, apart := false, narrowed := true }
def ArborAllUptoSaid : Prop := arborAllUptoRow.holds Try.pinned (OpenSpec.upto arborAllSpec)

end Rows
end Go.Proofs.Ytkgcmgbndapjcaa
