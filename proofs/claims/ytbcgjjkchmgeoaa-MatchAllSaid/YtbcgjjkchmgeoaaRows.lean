/-
  No cell of these rows narrows 'for every input' (looked for: loops, veiled, ifaces, maps, wideKeys, modest, calm, conditions, laid).
  DERIVED. THE GIVEN ROWS OF THIS SEAT. 20 by the template 'for every input the law returns true; each argument reads behind the call as it read before'; 0 by the template 'total and deterministic' (their statements: YtbcgjjkchmgeoaaTotals.lean).
  GIVEN WITH THE SEED: the statements are not yours to turn. If you find one false, say at which input.
  Laid BY PROGRAM, IN A SANDBOX (cutbox-rows.mjs): the forced cells as the released guide's own fill.sh prints them over the translation a923b62de4865dc6… (all of the seat's roots in one cut). By AI agents, Wed Nov 11 2026. No macro, syntax, notation, axiom, sorry.
-/
import Derived.Test.YtbcgjjkchmgeoaaChecked
import GoSem.Claim
import GoSem.ClaimJoined
import GoSem.ClaimMapViews
import Derived.JoinedTies
import Derived.KernelRfl
namespace Go.Proofs.Ytbcgjjkchmgeoaa
/- THE CELL 'sum', in the pinned program and in every row, IS THE sha256 OF THE DUMP (.gsa) THAT YtbcgjjkchmgeoaaProg.lean LOADS. Nothing in Lean hashes anything: it is a label: what it is worth is what the hold of that sum in a sandbox is worth. -/
noncomputable def Try.pinned : Pinned := { name := "ytbcgjjkchmgeoaa", sum := "a923b62de4865dc672b2405c690eb7be3b3364d966b07ae30fec2821e8a28be5", checked := Try.checked }
namespace Rows
def none {H : Type} : Left H := { results := [], args := [] }

/-- 'greenwoodlaw03.JoinTells': WHATEVER THE INPUT: true; the input reads as it did. -/
def joinTellsSpec : ChangeSpec := { name := "joinTells", fn := fun _ => fun
  | [d1, d2] => { results := [.lit (.bool true)], args := [d1, d2] }
  | _ => none }
def joinTellsRow : OpenClaim := { program := "ytbcgjjkchmgeoaa", sum := "a923b62de4865dc672b2405c690eb7be3b3364d966b07ae30fec2821e8a28be5", func := "greenwood/greenwoodlaw03.JoinTells", spec := "joinTells", apart := false }
def JoinTellsSaid : Prop := joinTellsRow.holds Try.pinned (OpenSpec.ofChange joinTellsSpec)

/-- ITS FALSE NEIGHBOUR: 'it returns false'. Refute it at one input. -/
def joinTellsWrong : ChangeSpec := { name := "joinTells", fn := fun _ => fun
  | [d1, d2] => { results := [.lit (.bool false)], args := [d1, d2] }
  | _ => none }
def JoinTellsWrongFalsely : Prop := joinTellsRow.holds Try.pinned (OpenSpec.ofChange joinTellsWrong)

/-- 'greenwoodlaw03.JoinParts': WHATEVER THE INPUT: true; the input reads as it did. -/
def joinPartsSpec : ChangeSpec := { name := "joinParts", fn := fun _ => fun
  | [d1, d2] => { results := [.lit (.bool true)], args := [d1, d2] }
  | _ => none }
def joinPartsRow : OpenClaim := { program := "ytbcgjjkchmgeoaa", sum := "a923b62de4865dc672b2405c690eb7be3b3364d966b07ae30fec2821e8a28be5", func := "greenwood/greenwoodlaw03.JoinParts", spec := "joinParts", apart := false }
def JoinPartsSaid : Prop := joinPartsRow.holds Try.pinned (OpenSpec.ofChange joinPartsSpec)

/-- ITS FALSE NEIGHBOUR: 'it returns false'. Refute it at one input. -/
def joinPartsWrong : ChangeSpec := { name := "joinParts", fn := fun _ => fun
  | [d1, d2] => { results := [.lit (.bool false)], args := [d1, d2] }
  | _ => none }
def JoinPartsWrongFalsely : Prop := joinPartsRow.holds Try.pinned (OpenSpec.ofChange joinPartsWrong)

/-- 'greenwoodlaw03.JoinOrder': WHATEVER THE INPUT: true; the input reads as it did. -/
def joinOrderSpec : ChangeSpec := { name := "joinOrder", fn := fun _ => fun
  | [d1, d2, d3] => { results := [.lit (.bool true)], args := [d1, d2, d3] }
  | _ => none }
def joinOrderRow : OpenClaim := { program := "ytbcgjjkchmgeoaa", sum := "a923b62de4865dc672b2405c690eb7be3b3364d966b07ae30fec2821e8a28be5", func := "greenwood/greenwoodlaw03.JoinOrder", spec := "joinOrder", apart := false }
def JoinOrderSaid : Prop := joinOrderRow.holds Try.pinned (OpenSpec.ofChange joinOrderSpec)

/-- ITS FALSE NEIGHBOUR: 'it returns false'. Refute it at one input. -/
def joinOrderWrong : ChangeSpec := { name := "joinOrder", fn := fun _ => fun
  | [d1, d2, d3] => { results := [.lit (.bool false)], args := [d1, d2, d3] }
  | _ => none }
def JoinOrderWrongFalsely : Prop := joinOrderRow.holds Try.pinned (OpenSpec.ofChange joinOrderWrong)

/-- 'greenwoodlaw03.JoinPath': WHATEVER THE INPUT: true; the input reads as it did. -/
def joinPathSpec : ChangeSpec := { name := "joinPath", fn := fun _ => fun
  | [d] => { results := [.lit (.bool true)], args := [d] }
  | _ => none }
def joinPathRow : OpenClaim := { program := "ytbcgjjkchmgeoaa", sum := "a923b62de4865dc672b2405c690eb7be3b3364d966b07ae30fec2821e8a28be5", func := "greenwood/greenwoodlaw03.JoinPath", spec := "joinPath", apart := false }
def JoinPathSaid : Prop := joinPathRow.holds Try.pinned (OpenSpec.ofChange joinPathSpec)

/-- ITS FALSE NEIGHBOUR: 'it returns false'. Refute it at one input. -/
def joinPathWrong : ChangeSpec := { name := "joinPath", fn := fun _ => fun
  | [d] => { results := [.lit (.bool false)], args := [d] }
  | _ => none }
def JoinPathWrongFalsely : Prop := joinPathRow.holds Try.pinned (OpenSpec.ofChange joinPathWrong)

/-- 'greenwoodlaw03.JoinMore': WHATEVER THE INPUT: true; the input reads as it did. -/
def joinMoreSpec : ChangeSpec := { name := "joinMore", fn := fun _ => fun
  | [d1, d2, d3] => { results := [.lit (.bool true)], args := [d1, d2, d3] }
  | _ => none }
def joinMoreRow : OpenClaim := { program := "ytbcgjjkchmgeoaa", sum := "a923b62de4865dc672b2405c690eb7be3b3364d966b07ae30fec2821e8a28be5", func := "greenwood/greenwoodlaw03.JoinMore", spec := "joinMore", apart := false }
def JoinMoreSaid : Prop := joinMoreRow.holds Try.pinned (OpenSpec.ofChange joinMoreSpec)

/-- ITS FALSE NEIGHBOUR: 'it returns false'. Refute it at one input. -/
def joinMoreWrong : ChangeSpec := { name := "joinMore", fn := fun _ => fun
  | [d1, d2, d3] => { results := [.lit (.bool false)], args := [d1, d2, d3] }
  | _ => none }
def JoinMoreWrongFalsely : Prop := joinMoreRow.holds Try.pinned (OpenSpec.ofChange joinMoreWrong)

/-- 'greenwoodlaw07.ReachTells': WHATEVER THE INPUT: true; the input reads as it did. -/
def reachTellsSpec : ChangeSpec := { name := "reachTells", fn := fun _ => fun
  | [d1, d2, d3] => { results := [.lit (.bool true)], args := [d1, d2, d3] }
  | _ => none }
def reachTellsRow : OpenClaim := { program := "ytbcgjjkchmgeoaa", sum := "a923b62de4865dc672b2405c690eb7be3b3364d966b07ae30fec2821e8a28be5", func := "greenwood/greenwoodlaw07.ReachTells", spec := "reachTells", unfollowed := true, recurses := true, apart := false }
def ReachTellsSaid : Prop := reachTellsRow.holds Try.pinned (OpenSpec.ofChange reachTellsSpec)

/-- ITS FALSE NEIGHBOUR: 'it returns false'. Refute it at one input. -/
def reachTellsWrong : ChangeSpec := { name := "reachTells", fn := fun _ => fun
  | [d1, d2, d3] => { results := [.lit (.bool false)], args := [d1, d2, d3] }
  | _ => none }
def ReachTellsWrongFalsely : Prop := reachTellsRow.holds Try.pinned (OpenSpec.ofChange reachTellsWrong)

/-- 'greenwoodlaw07.ReachCloses': WHATEVER THE INPUT: true; the input reads as it did. -/
def reachClosesSpec : ChangeSpec := { name := "reachCloses", fn := fun _ => fun
  | [d1, d2, d3] => { results := [.lit (.bool true)], args := [d1, d2, d3] }
  | _ => none }
def reachClosesRow : OpenClaim := { program := "ytbcgjjkchmgeoaa", sum := "a923b62de4865dc672b2405c690eb7be3b3364d966b07ae30fec2821e8a28be5", func := "greenwood/greenwoodlaw07.ReachCloses", spec := "reachCloses", unfollowed := true, recurses := true, apart := false }
def ReachClosesSaid : Prop := reachClosesRow.holds Try.pinned (OpenSpec.ofChange reachClosesSpec)

/-- ITS FALSE NEIGHBOUR: 'it returns false'. Refute it at one input. -/
def reachClosesWrong : ChangeSpec := { name := "reachCloses", fn := fun _ => fun
  | [d1, d2, d3] => { results := [.lit (.bool false)], args := [d1, d2, d3] }
  | _ => none }
def ReachClosesWrongFalsely : Prop := reachClosesRow.holds Try.pinned (OpenSpec.ofChange reachClosesWrong)

/-- 'greenwoodlaw07.ReachShortest': WHATEVER THE INPUT: true; the input reads as it did. -/
def reachShortestSpec : ChangeSpec := { name := "reachShortest", fn := fun _ => fun
  | [d1, d2, d3] => { results := [.lit (.bool true)], args := [d1, d2, d3] }
  | _ => none }
def reachShortestRow : OpenClaim := { program := "ytbcgjjkchmgeoaa", sum := "a923b62de4865dc672b2405c690eb7be3b3364d966b07ae30fec2821e8a28be5", func := "greenwood/greenwoodlaw07.ReachShortest", spec := "reachShortest", unfollowed := true, recurses := true, apart := false }
def ReachShortestSaid : Prop := reachShortestRow.holds Try.pinned (OpenSpec.ofChange reachShortestSpec)

/-- ITS FALSE NEIGHBOUR: 'it returns false'. Refute it at one input. -/
def reachShortestWrong : ChangeSpec := { name := "reachShortest", fn := fun _ => fun
  | [d1, d2, d3] => { results := [.lit (.bool false)], args := [d1, d2, d3] }
  | _ => none }
def ReachShortestWrongFalsely : Prop := reachShortestRow.holds Try.pinned (OpenSpec.ofChange reachShortestWrong)

/-- 'greenwoodlaw07.ReachPath': WHATEVER THE INPUT: true; the input reads as it did. -/
def reachPathSpec : ChangeSpec := { name := "reachPath", fn := fun _ => fun
  | [d] => { results := [.lit (.bool true)], args := [d] }
  | _ => none }
def reachPathRow : OpenClaim := { program := "ytbcgjjkchmgeoaa", sum := "a923b62de4865dc672b2405c690eb7be3b3364d966b07ae30fec2821e8a28be5", func := "greenwood/greenwoodlaw07.ReachPath", spec := "reachPath", unfollowed := true, recurses := true, apart := false }
def ReachPathSaid : Prop := reachPathRow.holds Try.pinned (OpenSpec.ofChange reachPathSpec)

/-- ITS FALSE NEIGHBOUR: 'it returns false'. Refute it at one input. -/
def reachPathWrong : ChangeSpec := { name := "reachPath", fn := fun _ => fun
  | [d] => { results := [.lit (.bool false)], args := [d] }
  | _ => none }
def ReachPathWrongFalsely : Prop := reachPathRow.holds Try.pinned (OpenSpec.ofChange reachPathWrong)

/-- 'greenwoodlaw07.ReachJoins': WHATEVER THE INPUT: true; the input reads as it did. -/
def reachJoinsSpec : ChangeSpec := { name := "reachJoins", fn := fun _ => fun
  | [d1, d2, d3] => { results := [.lit (.bool true)], args := [d1, d2, d3] }
  | _ => none }
def reachJoinsRow : OpenClaim := { program := "ytbcgjjkchmgeoaa", sum := "a923b62de4865dc672b2405c690eb7be3b3364d966b07ae30fec2821e8a28be5", func := "greenwood/greenwoodlaw07.ReachJoins", spec := "reachJoins", unfollowed := true, recurses := true, apart := false }
def ReachJoinsSaid : Prop := reachJoinsRow.holds Try.pinned (OpenSpec.ofChange reachJoinsSpec)

/-- ITS FALSE NEIGHBOUR: 'it returns false'. Refute it at one input. -/
def reachJoinsWrong : ChangeSpec := { name := "reachJoins", fn := fun _ => fun
  | [d1, d2, d3] => { results := [.lit (.bool false)], args := [d1, d2, d3] }
  | _ => none }
def ReachJoinsWrongFalsely : Prop := reachJoinsRow.holds Try.pinned (OpenSpec.ofChange reachJoinsWrong)

/-- 'greenwoodlaw06.MatchSizes': WHATEVER THE INPUT: true; the input reads as it did. -/
def matchSizesSpec : ChangeSpec := { name := "matchSizes", fn := fun _ => fun
  | [d1, d2] => { results := [.lit (.bool true)], args := [d1, d2] }
  | _ => none }
def matchSizesRow : OpenClaim := { program := "ytbcgjjkchmgeoaa", sum := "a923b62de4865dc672b2405c690eb7be3b3364d966b07ae30fec2821e8a28be5", func := "greenwood/greenwoodlaw06.MatchSizes", spec := "matchSizes", unfollowed := true, recurses := true, apart := false }
def MatchSizesSaid : Prop := matchSizesRow.holds Try.pinned (OpenSpec.ofChange matchSizesSpec)

/-- ITS FALSE NEIGHBOUR: 'it returns false'. Refute it at one input. -/
def matchSizesWrong : ChangeSpec := { name := "matchSizes", fn := fun _ => fun
  | [d1, d2] => { results := [.lit (.bool false)], args := [d1, d2] }
  | _ => none }
def MatchSizesWrongFalsely : Prop := matchSizesRow.holds Try.pinned (OpenSpec.ofChange matchSizesWrong)

/-- 'greenwoodlaw06.MatchCertified': WHATEVER THE INPUT: true; the input reads as it did. -/
def matchCertifiedSpec : ChangeSpec := { name := "matchCertified", fn := fun _ => fun
  | [d1, d2] => { results := [.lit (.bool true)], args := [d1, d2] }
  | _ => none }
def matchCertifiedRow : OpenClaim := { program := "ytbcgjjkchmgeoaa", sum := "a923b62de4865dc672b2405c690eb7be3b3364d966b07ae30fec2821e8a28be5", func := "greenwood/greenwoodlaw06.MatchCertified", spec := "matchCertified", unfollowed := true, recurses := true, apart := false }
def MatchCertifiedSaid : Prop := matchCertifiedRow.holds Try.pinned (OpenSpec.ofChange matchCertifiedSpec)

/-- ITS FALSE NEIGHBOUR: 'it returns false'. Refute it at one input. -/
def matchCertifiedWrong : ChangeSpec := { name := "matchCertified", fn := fun _ => fun
  | [d1, d2] => { results := [.lit (.bool false)], args := [d1, d2] }
  | _ => none }
def MatchCertifiedWrongFalsely : Prop := matchCertifiedRow.holds Try.pinned (OpenSpec.ofChange matchCertifiedWrong)

/-- 'greenwoodlaw06.MatchMore': WHATEVER THE INPUT: true; the input reads as it did. -/
def matchMoreSpec : ChangeSpec := { name := "matchMore", fn := fun _ => fun
  | [d1, d2, d3] => { results := [.lit (.bool true)], args := [d1, d2, d3] }
  | _ => none }
def matchMoreRow : OpenClaim := { program := "ytbcgjjkchmgeoaa", sum := "a923b62de4865dc672b2405c690eb7be3b3364d966b07ae30fec2821e8a28be5", func := "greenwood/greenwoodlaw06.MatchMore", spec := "matchMore", unfollowed := true, recurses := true, apart := false }
def MatchMoreSaid : Prop := matchMoreRow.holds Try.pinned (OpenSpec.ofChange matchMoreSpec)

/-- ITS FALSE NEIGHBOUR: 'it returns false'. Refute it at one input. -/
def matchMoreWrong : ChangeSpec := { name := "matchMore", fn := fun _ => fun
  | [d1, d2, d3] => { results := [.lit (.bool false)], args := [d1, d2, d3] }
  | _ => none }
def MatchMoreWrongFalsely : Prop := matchMoreRow.holds Try.pinned (OpenSpec.ofChange matchMoreWrong)

/-- 'greenwoodlaw06.MatchAll': WHATEVER THE INPUT: true; the input reads as it did. -/
def matchAllSpec : ChangeSpec := { name := "matchAll", fn := fun _ => fun
  | [d1, d2] => { results := [.lit (.bool true)], args := [d1, d2] }
  | _ => none }
def matchAllRow : OpenClaim := { program := "ytbcgjjkchmgeoaa", sum := "a923b62de4865dc672b2405c690eb7be3b3364d966b07ae30fec2821e8a28be5", func := "greenwood/greenwoodlaw06.MatchAll", spec := "matchAll", unfollowed := true, recurses := true, apart := false }
def MatchAllSaid : Prop := matchAllRow.holds Try.pinned (OpenSpec.ofChange matchAllSpec)

/-- ITS FALSE NEIGHBOUR: 'it returns false'. Refute it at one input. -/
def matchAllWrong : ChangeSpec := { name := "matchAll", fn := fun _ => fun
  | [d1, d2] => { results := [.lit (.bool false)], args := [d1, d2] }
  | _ => none }
def MatchAllWrongFalsely : Prop := matchAllRow.holds Try.pinned (OpenSpec.ofChange matchAllWrong)

/-- 'greenwoodlaw06.MatchHall': WHATEVER THE INPUT: true; the input reads as it did. -/
def matchHallSpec : ChangeSpec := { name := "matchHall", fn := fun _ => fun
  | [d1, d2] => { results := [.lit (.bool true)], args := [d1, d2] }
  | _ => none }
def matchHallRow : OpenClaim := { program := "ytbcgjjkchmgeoaa", sum := "a923b62de4865dc672b2405c690eb7be3b3364d966b07ae30fec2821e8a28be5", func := "greenwood/greenwoodlaw06.MatchHall", spec := "matchHall", unfollowed := true, recurses := true, apart := false }
def MatchHallSaid : Prop := matchHallRow.holds Try.pinned (OpenSpec.ofChange matchHallSpec)

/-- ITS FALSE NEIGHBOUR: 'it returns false'. Refute it at one input. -/
def matchHallWrong : ChangeSpec := { name := "matchHall", fn := fun _ => fun
  | [d1, d2] => { results := [.lit (.bool false)], args := [d1, d2] }
  | _ => none }
def MatchHallWrongFalsely : Prop := matchHallRow.holds Try.pinned (OpenSpec.ofChange matchHallWrong)

/-- 'greenwoodlaw02.SetTells': WHATEVER THE INPUT: true; the input reads as it did. -/
def setTellsSpec : ChangeSpec := { name := "setTells", fn := fun _ => fun
  | [d1, d2, d3] => { results := [.lit (.bool true)], args := [d1, d2, d3] }
  | _ => none }
def setTellsRow : OpenClaim := { program := "ytbcgjjkchmgeoaa", sum := "a923b62de4865dc672b2405c690eb7be3b3364d966b07ae30fec2821e8a28be5", func := "greenwood/greenwoodlaw02.SetTells", spec := "setTells", unfollowed := true, recurses := true, apart := false }
def SetTellsSaid : Prop := setTellsRow.holds Try.pinned (OpenSpec.ofChange setTellsSpec)

/-- ITS FALSE NEIGHBOUR: 'it returns false'. Refute it at one input. -/
def setTellsWrong : ChangeSpec := { name := "setTells", fn := fun _ => fun
  | [d1, d2, d3] => { results := [.lit (.bool false)], args := [d1, d2, d3] }
  | _ => none }
def SetTellsWrongFalsely : Prop := setTellsRow.holds Try.pinned (OpenSpec.ofChange setTellsWrong)

/-- 'greenwoodlaw02.SetAlgebra': WHATEVER THE INPUT: true; the input reads as it did. -/
def setAlgebraSpec : ChangeSpec := { name := "setAlgebra", fn := fun _ => fun
  | [d1, d2, d3] => { results := [.lit (.bool true)], args := [d1, d2, d3] }
  | _ => none }
def setAlgebraRow : OpenClaim := { program := "ytbcgjjkchmgeoaa", sum := "a923b62de4865dc672b2405c690eb7be3b3364d966b07ae30fec2821e8a28be5", func := "greenwood/greenwoodlaw02.SetAlgebra", spec := "setAlgebra", unfollowed := true, recurses := true, apart := false }
def SetAlgebraSaid : Prop := setAlgebraRow.holds Try.pinned (OpenSpec.ofChange setAlgebraSpec)

/-- ITS FALSE NEIGHBOUR: 'it returns false'. Refute it at one input. -/
def setAlgebraWrong : ChangeSpec := { name := "setAlgebra", fn := fun _ => fun
  | [d1, d2, d3] => { results := [.lit (.bool false)], args := [d1, d2, d3] }
  | _ => none }
def SetAlgebraWrongFalsely : Prop := setAlgebraRow.holds Try.pinned (OpenSpec.ofChange setAlgebraWrong)

/-- 'greenwoodlaw02.SetMembers': WHATEVER THE INPUT: true; the input reads as it did. -/
def setMembersSpec : ChangeSpec := { name := "setMembers", fn := fun _ => fun
  | [d1, d2, d3] => { results := [.lit (.bool true)], args := [d1, d2, d3] }
  | _ => none }
def setMembersRow : OpenClaim := { program := "ytbcgjjkchmgeoaa", sum := "a923b62de4865dc672b2405c690eb7be3b3364d966b07ae30fec2821e8a28be5", func := "greenwood/greenwoodlaw02.SetMembers", spec := "setMembers", unfollowed := true, recurses := true, apart := false }
def SetMembersSaid : Prop := setMembersRow.holds Try.pinned (OpenSpec.ofChange setMembersSpec)

/-- ITS FALSE NEIGHBOUR: 'it returns false'. Refute it at one input. -/
def setMembersWrong : ChangeSpec := { name := "setMembers", fn := fun _ => fun
  | [d1, d2, d3] => { results := [.lit (.bool false)], args := [d1, d2, d3] }
  | _ => none }
def SetMembersWrongFalsely : Prop := setMembersRow.holds Try.pinned (OpenSpec.ofChange setMembersWrong)

/-- 'greenwoodlaw02.SetSorts': WHATEVER THE INPUT: true; the input reads as it did. -/
def setSortsSpec : ChangeSpec := { name := "setSorts", fn := fun _ => fun
  | [d1, d2] => { results := [.lit (.bool true)], args := [d1, d2] }
  | _ => none }
def setSortsRow : OpenClaim := { program := "ytbcgjjkchmgeoaa", sum := "a923b62de4865dc672b2405c690eb7be3b3364d966b07ae30fec2821e8a28be5", func := "greenwood/greenwoodlaw02.SetSorts", spec := "setSorts", unfollowed := true, recurses := true, apart := false }
def SetSortsSaid : Prop := setSortsRow.holds Try.pinned (OpenSpec.ofChange setSortsSpec)

/-- ITS FALSE NEIGHBOUR: 'it returns false'. Refute it at one input. -/
def setSortsWrong : ChangeSpec := { name := "setSorts", fn := fun _ => fun
  | [d1, d2] => { results := [.lit (.bool false)], args := [d1, d2] }
  | _ => none }
def SetSortsWrongFalsely : Prop := setSortsRow.holds Try.pinned (OpenSpec.ofChange setSortsWrong)

/-- 'greenwoodlaw02.SetAll': WHATEVER THE INPUT: true; the input reads as it did. -/
def setAllSpec : ChangeSpec := { name := "setAll", fn := fun _ => fun
  | [d1, d2] => { results := [.lit (.bool true)], args := [d1, d2] }
  | _ => none }
def setAllRow : OpenClaim := { program := "ytbcgjjkchmgeoaa", sum := "a923b62de4865dc672b2405c690eb7be3b3364d966b07ae30fec2821e8a28be5", func := "greenwood/greenwoodlaw02.SetAll", spec := "setAll", unfollowed := true, recurses := true, apart := false }
def SetAllSaid : Prop := setAllRow.holds Try.pinned (OpenSpec.ofChange setAllSpec)

/-- ITS FALSE NEIGHBOUR: 'it returns false'. Refute it at one input. -/
def setAllWrong : ChangeSpec := { name := "setAll", fn := fun _ => fun
  | [d1, d2] => { results := [.lit (.bool false)], args := [d1, d2] }
  | _ => none }
def SetAllWrongFalsely : Prop := setAllRow.holds Try.pinned (OpenSpec.ofChange setAllWrong)

/- THE SECOND FORM. 'bulk': how many values and letters a reading holds, each counted each time it is reached (what is shared counts as often as it is met; a slice's spare places count too). A statement '..UptoSaid' is the law's where the arguments, and the package variables that the reading takes, are together of bulk at most 1048576: NARROWER than '..Said'. Prove '..Said' where nothing that the law and all that it calls make is longer than what came in: it says more and counts as full. Else prove '..UptoSaid'. A law counts once. -/
mutual
def uptoBulk {H : Type} : DataW H → Nat
  | .lit (.string bytes) => bytes.length + 1
  | .lit _ => 1
  | .nil => 1
  | .ptr d => uptoBulk d + 1
  | .slice elems spare => uptoBulkAll elems + uptoBulkAll spare + 1
  | .agg parts => uptoBulkAll parts + 1
  | .iface _ d => uptoBulk d + 1
  | .map entries => uptoBulkEntries entries + 1
  | .held _ => 1
def uptoBulkAll {H : Type} : List (DataW H) → Nat
  | [] => 0
  | d :: r => uptoBulk d + uptoBulkAll r
def uptoBulkEntries {H : Type} : List (Lit × DataW H) → Nat
  | [] => 0
  | x :: r => uptoBulkEntry x + uptoBulkEntries r
def uptoBulkEntry {H : Type} : Lit × DataW H → Nat
  | (.string bytes, d) => bytes.length + uptoBulk d + 1
  | (_, d) => uptoBulk d + 1
 end
def uptoSmall : (H : Type) → List (DataW H) → Bool := fun _ ds => decide (uptoBulkAll ds ≤ 1048576)
def OpenSpec.upto (s : _root_.Go.ChangeSpec) : _root_.Go.OpenSpec := { _root_.Go.OpenSpec.ofChange s with cond := some uptoSmall }

/-- 'greenwoodlaw03.JoinTells', WHERE WHAT IT READS IS OF BULK AT MOST 1048576: true; the input reads as it did. -/
def joinTellsUptoRow : OpenClaim := { program := "ytbcgjjkchmgeoaa", sum := "a923b62de4865dc672b2405c690eb7be3b3364d966b07ae30fec2821e8a28be5", func := "greenwood/greenwoodlaw03.JoinTells", spec := "joinTells", apart := false, narrowed := true }
def JoinTellsUptoSaid : Prop := joinTellsUptoRow.holds Try.pinned (OpenSpec.upto joinTellsSpec)

/-- 'greenwoodlaw03.JoinParts', WHERE WHAT IT READS IS OF BULK AT MOST 1048576: true; the input reads as it did. -/
def joinPartsUptoRow : OpenClaim := { program := "ytbcgjjkchmgeoaa", sum := "a923b62de4865dc672b2405c690eb7be3b3364d966b07ae30fec2821e8a28be5", func := "greenwood/greenwoodlaw03.JoinParts", spec := "joinParts", apart := false, narrowed := true }
def JoinPartsUptoSaid : Prop := joinPartsUptoRow.holds Try.pinned (OpenSpec.upto joinPartsSpec)

/-- 'greenwoodlaw03.JoinOrder', WHERE WHAT IT READS IS OF BULK AT MOST 1048576: true; the input reads as it did. -/
def joinOrderUptoRow : OpenClaim := { program := "ytbcgjjkchmgeoaa", sum := "a923b62de4865dc672b2405c690eb7be3b3364d966b07ae30fec2821e8a28be5", func := "greenwood/greenwoodlaw03.JoinOrder", spec := "joinOrder", apart := false, narrowed := true }
def JoinOrderUptoSaid : Prop := joinOrderUptoRow.holds Try.pinned (OpenSpec.upto joinOrderSpec)

/-- 'greenwoodlaw03.JoinPath', WHERE WHAT IT READS IS OF BULK AT MOST 1048576: true; the input reads as it did. -/
def joinPathUptoRow : OpenClaim := { program := "ytbcgjjkchmgeoaa", sum := "a923b62de4865dc672b2405c690eb7be3b3364d966b07ae30fec2821e8a28be5", func := "greenwood/greenwoodlaw03.JoinPath", spec := "joinPath", apart := false, narrowed := true }
def JoinPathUptoSaid : Prop := joinPathUptoRow.holds Try.pinned (OpenSpec.upto joinPathSpec)

/-- 'greenwoodlaw03.JoinMore', WHERE WHAT IT READS IS OF BULK AT MOST 1048576: true; the input reads as it did. -/
def joinMoreUptoRow : OpenClaim := { program := "ytbcgjjkchmgeoaa", sum := "a923b62de4865dc672b2405c690eb7be3b3364d966b07ae30fec2821e8a28be5", func := "greenwood/greenwoodlaw03.JoinMore", spec := "joinMore", apart := false, narrowed := true }
def JoinMoreUptoSaid : Prop := joinMoreUptoRow.holds Try.pinned (OpenSpec.upto joinMoreSpec)

/-- 'greenwoodlaw07.ReachTells', WHERE WHAT IT READS IS OF BULK AT MOST 1048576: true; the input reads as it did. -/
def reachTellsUptoRow : OpenClaim := { program := "ytbcgjjkchmgeoaa", sum := "a923b62de4865dc672b2405c690eb7be3b3364d966b07ae30fec2821e8a28be5", func := "greenwood/greenwoodlaw07.ReachTells", spec := "reachTells", unfollowed := true, recurses := true, apart := false, narrowed := true }
def ReachTellsUptoSaid : Prop := reachTellsUptoRow.holds Try.pinned (OpenSpec.upto reachTellsSpec)

/-- 'greenwoodlaw07.ReachCloses', WHERE WHAT IT READS IS OF BULK AT MOST 1048576: true; the input reads as it did. -/
def reachClosesUptoRow : OpenClaim := { program := "ytbcgjjkchmgeoaa", sum := "a923b62de4865dc672b2405c690eb7be3b3364d966b07ae30fec2821e8a28be5", func := "greenwood/greenwoodlaw07.ReachCloses", spec := "reachCloses", unfollowed := true, recurses := true, apart := false, narrowed := true }
def ReachClosesUptoSaid : Prop := reachClosesUptoRow.holds Try.pinned (OpenSpec.upto reachClosesSpec)

/-- 'greenwoodlaw07.ReachShortest', WHERE WHAT IT READS IS OF BULK AT MOST 1048576: true; the input reads as it did. -/
def reachShortestUptoRow : OpenClaim := { program := "ytbcgjjkchmgeoaa", sum := "a923b62de4865dc672b2405c690eb7be3b3364d966b07ae30fec2821e8a28be5", func := "greenwood/greenwoodlaw07.ReachShortest", spec := "reachShortest", unfollowed := true, recurses := true, apart := false, narrowed := true }
def ReachShortestUptoSaid : Prop := reachShortestUptoRow.holds Try.pinned (OpenSpec.upto reachShortestSpec)

/-- 'greenwoodlaw07.ReachPath', WHERE WHAT IT READS IS OF BULK AT MOST 1048576: true; the input reads as it did. -/
def reachPathUptoRow : OpenClaim := { program := "ytbcgjjkchmgeoaa", sum := "a923b62de4865dc672b2405c690eb7be3b3364d966b07ae30fec2821e8a28be5", func := "greenwood/greenwoodlaw07.ReachPath", spec := "reachPath", unfollowed := true, recurses := true, apart := false, narrowed := true }
def ReachPathUptoSaid : Prop := reachPathUptoRow.holds Try.pinned (OpenSpec.upto reachPathSpec)

/-- 'greenwoodlaw07.ReachJoins', WHERE WHAT IT READS IS OF BULK AT MOST 1048576: true; the input reads as it did. -/
def reachJoinsUptoRow : OpenClaim := { program := "ytbcgjjkchmgeoaa", sum := "a923b62de4865dc672b2405c690eb7be3b3364d966b07ae30fec2821e8a28be5", func := "greenwood/greenwoodlaw07.ReachJoins", spec := "reachJoins", unfollowed := true, recurses := true, apart := false, narrowed := true }
def ReachJoinsUptoSaid : Prop := reachJoinsUptoRow.holds Try.pinned (OpenSpec.upto reachJoinsSpec)

/-- 'greenwoodlaw06.MatchSizes', WHERE WHAT IT READS IS OF BULK AT MOST 1048576: true; the input reads as it did. -/
def matchSizesUptoRow : OpenClaim := { program := "ytbcgjjkchmgeoaa", sum := "a923b62de4865dc672b2405c690eb7be3b3364d966b07ae30fec2821e8a28be5", func := "greenwood/greenwoodlaw06.MatchSizes", spec := "matchSizes", unfollowed := true, recurses := true, apart := false, narrowed := true }
def MatchSizesUptoSaid : Prop := matchSizesUptoRow.holds Try.pinned (OpenSpec.upto matchSizesSpec)

/-- 'greenwoodlaw06.MatchCertified', WHERE WHAT IT READS IS OF BULK AT MOST 1048576: true; the input reads as it did. -/
def matchCertifiedUptoRow : OpenClaim := { program := "ytbcgjjkchmgeoaa", sum := "a923b62de4865dc672b2405c690eb7be3b3364d966b07ae30fec2821e8a28be5", func := "greenwood/greenwoodlaw06.MatchCertified", spec := "matchCertified", unfollowed := true, recurses := true, apart := false, narrowed := true }
def MatchCertifiedUptoSaid : Prop := matchCertifiedUptoRow.holds Try.pinned (OpenSpec.upto matchCertifiedSpec)

/-- 'greenwoodlaw06.MatchMore', WHERE WHAT IT READS IS OF BULK AT MOST 1048576: true; the input reads as it did. -/
def matchMoreUptoRow : OpenClaim := { program := "ytbcgjjkchmgeoaa", sum := "a923b62de4865dc672b2405c690eb7be3b3364d966b07ae30fec2821e8a28be5", func := "greenwood/greenwoodlaw06.MatchMore", spec := "matchMore", unfollowed := true, recurses := true, apart := false, narrowed := true }
def MatchMoreUptoSaid : Prop := matchMoreUptoRow.holds Try.pinned (OpenSpec.upto matchMoreSpec)

/-- 'greenwoodlaw06.MatchAll', WHERE WHAT IT READS IS OF BULK AT MOST 1048576: true; the input reads as it did. -/
def matchAllUptoRow : OpenClaim := { program := "ytbcgjjkchmgeoaa", sum := "a923b62de4865dc672b2405c690eb7be3b3364d966b07ae30fec2821e8a28be5", func := "greenwood/greenwoodlaw06.MatchAll", spec := "matchAll", unfollowed := true, recurses := true, apart := false, narrowed := true }
def MatchAllUptoSaid : Prop := matchAllUptoRow.holds Try.pinned (OpenSpec.upto matchAllSpec)

/-- 'greenwoodlaw06.MatchHall', WHERE WHAT IT READS IS OF BULK AT MOST 1048576: true; the input reads as it did. -/
def matchHallUptoRow : OpenClaim := { program := "ytbcgjjkchmgeoaa", sum := "a923b62de4865dc672b2405c690eb7be3b3364d966b07ae30fec2821e8a28be5", func := "greenwood/greenwoodlaw06.MatchHall", spec := "matchHall", unfollowed := true, recurses := true, apart := false, narrowed := true }
def MatchHallUptoSaid : Prop := matchHallUptoRow.holds Try.pinned (OpenSpec.upto matchHallSpec)

/-- 'greenwoodlaw02.SetTells', WHERE WHAT IT READS IS OF BULK AT MOST 1048576: true; the input reads as it did. -/
def setTellsUptoRow : OpenClaim := { program := "ytbcgjjkchmgeoaa", sum := "a923b62de4865dc672b2405c690eb7be3b3364d966b07ae30fec2821e8a28be5", func := "greenwood/greenwoodlaw02.SetTells", spec := "setTells", unfollowed := true, recurses := true, apart := false, narrowed := true }
def SetTellsUptoSaid : Prop := setTellsUptoRow.holds Try.pinned (OpenSpec.upto setTellsSpec)

/-- 'greenwoodlaw02.SetAlgebra', WHERE WHAT IT READS IS OF BULK AT MOST 1048576: true; the input reads as it did. -/
def setAlgebraUptoRow : OpenClaim := { program := "ytbcgjjkchmgeoaa", sum := "a923b62de4865dc672b2405c690eb7be3b3364d966b07ae30fec2821e8a28be5", func := "greenwood/greenwoodlaw02.SetAlgebra", spec := "setAlgebra", unfollowed := true, recurses := true, apart := false, narrowed := true }
def SetAlgebraUptoSaid : Prop := setAlgebraUptoRow.holds Try.pinned (OpenSpec.upto setAlgebraSpec)

/-- 'greenwoodlaw02.SetMembers', WHERE WHAT IT READS IS OF BULK AT MOST 1048576: true; the input reads as it did. -/
def setMembersUptoRow : OpenClaim := { program := "ytbcgjjkchmgeoaa", sum := "a923b62de4865dc672b2405c690eb7be3b3364d966b07ae30fec2821e8a28be5", func := "greenwood/greenwoodlaw02.SetMembers", spec := "setMembers", unfollowed := true, recurses := true, apart := false, narrowed := true }
def SetMembersUptoSaid : Prop := setMembersUptoRow.holds Try.pinned (OpenSpec.upto setMembersSpec)

/-- 'greenwoodlaw02.SetSorts', WHERE WHAT IT READS IS OF BULK AT MOST 1048576: true; the input reads as it did. -/
def setSortsUptoRow : OpenClaim := { program := "ytbcgjjkchmgeoaa", sum := "a923b62de4865dc672b2405c690eb7be3b3364d966b07ae30fec2821e8a28be5", func := "greenwood/greenwoodlaw02.SetSorts", spec := "setSorts", unfollowed := true, recurses := true, apart := false, narrowed := true }
def SetSortsUptoSaid : Prop := setSortsUptoRow.holds Try.pinned (OpenSpec.upto setSortsSpec)

/-- 'greenwoodlaw02.SetAll', WHERE WHAT IT READS IS OF BULK AT MOST 1048576: true; the input reads as it did. -/
def setAllUptoRow : OpenClaim := { program := "ytbcgjjkchmgeoaa", sum := "a923b62de4865dc672b2405c690eb7be3b3364d966b07ae30fec2821e8a28be5", func := "greenwood/greenwoodlaw02.SetAll", spec := "setAll", unfollowed := true, recurses := true, apart := false, narrowed := true }
def SetAllUptoSaid : Prop := setAllUptoRow.holds Try.pinned (OpenSpec.upto setAllSpec)

end Rows
end Go.Proofs.Ytbcgjjkchmgeoaa
