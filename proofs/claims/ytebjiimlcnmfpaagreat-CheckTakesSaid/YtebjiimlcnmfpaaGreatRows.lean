/-
  No cell of these rows narrows 'for every input' (looked for: loops, veiled, ifaces, maps, wideKeys, modest, calm, conditions, laid).
  DERIVED. THE GIVEN ROWS OF THIS SEAT. 15 by the template 'for every input the law returns true; each argument reads behind the call as it read before'; 0 by the template 'total and deterministic' (their statements: YtebjiimlcnmfpaaGreatTotals.lean).
  GIVEN WITH THE SEED: the statements are not yours to turn. If you find one false, say at which input.
  Laid BY PROGRAM, IN A SANDBOX (cutbox-rows.mjs): the forced cells as the released guide's own fill.sh prints them over the translation 98b31db01545c53e… (all of the seat's roots in one cut). By AI agents, Wed Nov 11 2026. No macro, syntax, notation, axiom, sorry.
-/
import Derived.Test.YtebjiimlcnmfpaaGreatChecked
import GoSem.Claim
import GoSem.ClaimJoined
import GoSem.ClaimMapViews
import Derived.JoinedTies
import Derived.KernelRfl
namespace Go.Proofs.YtebjiimlcnmfpaaGreat
/- THE CELL 'sum', in the pinned program and in every row, IS THE sha256 OF THE DUMP (.gsa) THAT YtebjiimlcnmfpaaGreatProg.lean LOADS. Nothing in Lean hashes anything: it is a label: what it is worth is what the hold of that sum in a sandbox is worth. -/
noncomputable def Tryz.pinned : Pinned := { name := "ytebjiimlcnmfpaagreat", sum := "98b31db01545c53e6c30397b1abef39e182ce48e2f2f5cdc41a2b2a1dda5b5da", checked := Tryz.checked }
namespace Rows
def none {H : Type} : Left H := { results := [], args := [] }

/-- 'cartouchelaw10.EdgesTell': WHATEVER THE INPUT: true; the input reads as it did. -/
def edgesTellSpec : ChangeSpec := { name := "edgesTell", fn := fun _ => fun
  | [d1, d2] => { results := [.lit (.bool true)], args := [d1, d2] }
  | _ => none }
def edgesTellRow : OpenClaim := { program := "ytebjiimlcnmfpaagreat", sum := "98b31db01545c53e6c30397b1abef39e182ce48e2f2f5cdc41a2b2a1dda5b5da", func := "cartouche/cartouchelaw10.EdgesTell", spec := "edgesTell", unfollowed := true, recurses := true, apart := false }
def EdgesTellSaid : Prop := edgesTellRow.holds Tryz.pinned (OpenSpec.ofChange edgesTellSpec)

/-- ITS FALSE NEIGHBOUR: 'it returns false'. Refute it at one input. -/
def edgesTellWrong : ChangeSpec := { name := "edgesTell", fn := fun _ => fun
  | [d1, d2] => { results := [.lit (.bool false)], args := [d1, d2] }
  | _ => none }
def EdgesTellWrongFalsely : Prop := edgesTellRow.holds Tryz.pinned (OpenSpec.ofChange edgesTellWrong)

/-- 'cartouchelaw12.JudgeFlat': WHATEVER THE INPUT: true; the input reads as it did. -/
def judgeFlatSpec : ChangeSpec := { name := "judgeFlat", fn := fun _ => fun
  | [d] => { results := [.lit (.bool true)], args := [d] }
  | _ => none }
def judgeFlatRow : OpenClaim := { program := "ytebjiimlcnmfpaagreat", sum := "98b31db01545c53e6c30397b1abef39e182ce48e2f2f5cdc41a2b2a1dda5b5da", func := "cartouche/cartouchelaw12.JudgeFlat", spec := "judgeFlat", unfollowed := true, recurses := true, apart := false }
def JudgeFlatSaid : Prop := judgeFlatRow.holds Tryz.pinned (OpenSpec.ofChange judgeFlatSpec)

/-- ITS FALSE NEIGHBOUR: 'it returns false'. Refute it at one input. -/
def judgeFlatWrong : ChangeSpec := { name := "judgeFlat", fn := fun _ => fun
  | [d] => { results := [.lit (.bool false)], args := [d] }
  | _ => none }
def JudgeFlatWrongFalsely : Prop := judgeFlatRow.holds Tryz.pinned (OpenSpec.ofChange judgeFlatWrong)

/-- 'cartouchelaw12.JudgeGood': WHATEVER THE INPUT: true; the input reads as it did. -/
def judgeGoodSpec : ChangeSpec := { name := "judgeGood", fn := fun _ => fun
  | [d1, d2] => { results := [.lit (.bool true)], args := [d1, d2] }
  | _ => none }
def judgeGoodRow : OpenClaim := { program := "ytebjiimlcnmfpaagreat", sum := "98b31db01545c53e6c30397b1abef39e182ce48e2f2f5cdc41a2b2a1dda5b5da", func := "cartouche/cartouchelaw12.JudgeGood", spec := "judgeGood", unfollowed := true, recurses := true, apart := false }
def JudgeGoodSaid : Prop := judgeGoodRow.holds Tryz.pinned (OpenSpec.ofChange judgeGoodSpec)

/-- ITS FALSE NEIGHBOUR: 'it returns false'. Refute it at one input. -/
def judgeGoodWrong : ChangeSpec := { name := "judgeGood", fn := fun _ => fun
  | [d1, d2] => { results := [.lit (.bool false)], args := [d1, d2] }
  | _ => none }
def JudgeGoodWrongFalsely : Prop := judgeGoodRow.holds Tryz.pinned (OpenSpec.ofChange judgeGoodWrong)

/-- 'cartouchelaw12.JudgeLevels': WHATEVER THE INPUT: true; the input reads as it did. -/
def judgeLevelsSpec : ChangeSpec := { name := "judgeLevels", fn := fun _ => fun
  | [d] => { results := [.lit (.bool true)], args := [d] }
  | _ => none }
def judgeLevelsRow : OpenClaim := { program := "ytebjiimlcnmfpaagreat", sum := "98b31db01545c53e6c30397b1abef39e182ce48e2f2f5cdc41a2b2a1dda5b5da", func := "cartouche/cartouchelaw12.JudgeLevels", spec := "judgeLevels", unfollowed := true, recurses := true, apart := false }
def JudgeLevelsSaid : Prop := judgeLevelsRow.holds Tryz.pinned (OpenSpec.ofChange judgeLevelsSpec)

/-- ITS FALSE NEIGHBOUR: 'it returns false'. Refute it at one input. -/
def judgeLevelsWrong : ChangeSpec := { name := "judgeLevels", fn := fun _ => fun
  | [d] => { results := [.lit (.bool false)], args := [d] }
  | _ => none }
def JudgeLevelsWrongFalsely : Prop := judgeLevelsRow.holds Tryz.pinned (OpenSpec.ofChange judgeLevelsWrong)

/-- 'cartouchelaw12.JudgeAlone': WHATEVER THE INPUT: true; the input reads as it did. -/
def judgeAloneSpec : ChangeSpec := { name := "judgeAlone", fn := fun _ => fun
  | [d] => { results := [.lit (.bool true)], args := [d] }
  | _ => none }
def judgeAloneRow : OpenClaim := { program := "ytebjiimlcnmfpaagreat", sum := "98b31db01545c53e6c30397b1abef39e182ce48e2f2f5cdc41a2b2a1dda5b5da", func := "cartouche/cartouchelaw12.JudgeAlone", spec := "judgeAlone", unfollowed := true, recurses := true, apart := false }
def JudgeAloneSaid : Prop := judgeAloneRow.holds Tryz.pinned (OpenSpec.ofChange judgeAloneSpec)

/-- ITS FALSE NEIGHBOUR: 'it returns false'. Refute it at one input. -/
def judgeAloneWrong : ChangeSpec := { name := "judgeAlone", fn := fun _ => fun
  | [d] => { results := [.lit (.bool false)], args := [d] }
  | _ => none }
def JudgeAloneWrongFalsely : Prop := judgeAloneRow.holds Tryz.pinned (OpenSpec.ofChange judgeAloneWrong)

/-- 'cartouchelaw12.JudgeRing': WHATEVER THE INPUT: true; the input reads as it did. -/
def judgeRingSpec : ChangeSpec := { name := "judgeRing", fn := fun _ => fun
  | [d1, d2] => { results := [.lit (.bool true)], args := [d1, d2] }
  | _ => none }
def judgeRingRow : OpenClaim := { program := "ytebjiimlcnmfpaagreat", sum := "98b31db01545c53e6c30397b1abef39e182ce48e2f2f5cdc41a2b2a1dda5b5da", func := "cartouche/cartouchelaw12.JudgeRing", spec := "judgeRing", unfollowed := true, recurses := true, apart := false }
def JudgeRingSaid : Prop := judgeRingRow.holds Tryz.pinned (OpenSpec.ofChange judgeRingSpec)

/-- ITS FALSE NEIGHBOUR: 'it returns false'. Refute it at one input. -/
def judgeRingWrong : ChangeSpec := { name := "judgeRing", fn := fun _ => fun
  | [d1, d2] => { results := [.lit (.bool false)], args := [d1, d2] }
  | _ => none }
def JudgeRingWrongFalsely : Prop := judgeRingRow.holds Tryz.pinned (OpenSpec.ofChange judgeRingWrong)

/-- 'cartouchelaw13.CheckTells': WHATEVER THE INPUT: true; the input reads as it did. -/
def checkTellsSpec : ChangeSpec := { name := "checkTells", fn := fun _ => fun
  | [d1, d2] => { results := [.lit (.bool true)], args := [d1, d2] }
  | _ => none }
def checkTellsRow : OpenClaim := { program := "ytebjiimlcnmfpaagreat", sum := "98b31db01545c53e6c30397b1abef39e182ce48e2f2f5cdc41a2b2a1dda5b5da", func := "cartouche/cartouchelaw13.CheckTells", spec := "checkTells", unfollowed := true, recurses := true, apart := false }
def CheckTellsSaid : Prop := checkTellsRow.holds Tryz.pinned (OpenSpec.ofChange checkTellsSpec)

/-- ITS FALSE NEIGHBOUR: 'it returns false'. Refute it at one input. -/
def checkTellsWrong : ChangeSpec := { name := "checkTells", fn := fun _ => fun
  | [d1, d2] => { results := [.lit (.bool false)], args := [d1, d2] }
  | _ => none }
def CheckTellsWrongFalsely : Prop := checkTellsRow.holds Tryz.pinned (OpenSpec.ofChange checkTellsWrong)

/-- 'cartouchelaw13.CheckRight': WHATEVER THE INPUT: true; the input reads as it did. -/
def checkRightSpec : ChangeSpec := { name := "checkRight", fn := fun _ => fun
  | [d1, d2] => { results := [.lit (.bool true)], args := [d1, d2] }
  | _ => none }
def checkRightRow : OpenClaim := { program := "ytebjiimlcnmfpaagreat", sum := "98b31db01545c53e6c30397b1abef39e182ce48e2f2f5cdc41a2b2a1dda5b5da", func := "cartouche/cartouchelaw13.CheckRight", spec := "checkRight", unfollowed := true, recurses := true, apart := false }
def CheckRightSaid : Prop := checkRightRow.holds Tryz.pinned (OpenSpec.ofChange checkRightSpec)

/-- ITS FALSE NEIGHBOUR: 'it returns false'. Refute it at one input. -/
def checkRightWrong : ChangeSpec := { name := "checkRight", fn := fun _ => fun
  | [d1, d2] => { results := [.lit (.bool false)], args := [d1, d2] }
  | _ => none }
def CheckRightWrongFalsely : Prop := checkRightRow.holds Tryz.pinned (OpenSpec.ofChange checkRightWrong)

/-- 'cartouchelaw13.CheckTakes': WHATEVER THE INPUT: true; the input reads as it did. -/
def checkTakesSpec : ChangeSpec := { name := "checkTakes", fn := fun _ => fun
  | [d1, d2] => { results := [.lit (.bool true)], args := [d1, d2] }
  | _ => none }
def checkTakesRow : OpenClaim := { program := "ytebjiimlcnmfpaagreat", sum := "98b31db01545c53e6c30397b1abef39e182ce48e2f2f5cdc41a2b2a1dda5b5da", func := "cartouche/cartouchelaw13.CheckTakes", spec := "checkTakes", unfollowed := true, recurses := true, apart := false }
def CheckTakesSaid : Prop := checkTakesRow.holds Tryz.pinned (OpenSpec.ofChange checkTakesSpec)

/-- ITS FALSE NEIGHBOUR: 'it returns false'. Refute it at one input. -/
def checkTakesWrong : ChangeSpec := { name := "checkTakes", fn := fun _ => fun
  | [d1, d2] => { results := [.lit (.bool false)], args := [d1, d2] }
  | _ => none }
def CheckTakesWrongFalsely : Prop := checkTakesRow.holds Tryz.pinned (OpenSpec.ofChange checkTakesWrong)

/-- 'cartouchelaw13.CheckTurned': WHATEVER THE INPUT: true; the input reads as it did. -/
def checkTurnedSpec : ChangeSpec := { name := "checkTurned", fn := fun _ => fun
  | [d1, d2, d3] => { results := [.lit (.bool true)], args := [d1, d2, d3] }
  | _ => none }
def checkTurnedRow : OpenClaim := { program := "ytebjiimlcnmfpaagreat", sum := "98b31db01545c53e6c30397b1abef39e182ce48e2f2f5cdc41a2b2a1dda5b5da", func := "cartouche/cartouchelaw13.CheckTurned", spec := "checkTurned", unfollowed := true, recurses := true, apart := false }
def CheckTurnedSaid : Prop := checkTurnedRow.holds Tryz.pinned (OpenSpec.ofChange checkTurnedSpec)

/-- ITS FALSE NEIGHBOUR: 'it returns false'. Refute it at one input. -/
def checkTurnedWrong : ChangeSpec := { name := "checkTurned", fn := fun _ => fun
  | [d1, d2, d3] => { results := [.lit (.bool false)], args := [d1, d2, d3] }
  | _ => none }
def CheckTurnedWrongFalsely : Prop := checkTurnedRow.holds Tryz.pinned (OpenSpec.ofChange checkTurnedWrong)

/-- 'cartouchelaw13.CheckTurns': WHATEVER THE INPUT: true; the input reads as it did. -/
def checkTurnsSpec : ChangeSpec := { name := "checkTurns", fn := fun _ => fun
  | [d] => { results := [.lit (.bool true)], args := [d] }
  | _ => none }
def checkTurnsRow : OpenClaim := { program := "ytebjiimlcnmfpaagreat", sum := "98b31db01545c53e6c30397b1abef39e182ce48e2f2f5cdc41a2b2a1dda5b5da", func := "cartouche/cartouchelaw13.CheckTurns", spec := "checkTurns", unfollowed := true, recurses := true, apart := false }
def CheckTurnsSaid : Prop := checkTurnsRow.holds Tryz.pinned (OpenSpec.ofChange checkTurnsSpec)

/-- ITS FALSE NEIGHBOUR: 'it returns false'. Refute it at one input. -/
def checkTurnsWrong : ChangeSpec := { name := "checkTurns", fn := fun _ => fun
  | [d] => { results := [.lit (.bool false)], args := [d] }
  | _ => none }
def CheckTurnsWrongFalsely : Prop := checkTurnsRow.holds Tryz.pinned (OpenSpec.ofChange checkTurnsWrong)

/-- 'cartouchelaw13.CheckLevels': WHATEVER THE INPUT: true; the input reads as it did. -/
def checkLevelsSpec : ChangeSpec := { name := "checkLevels", fn := fun _ => fun
  | [d1, d2, d3] => { results := [.lit (.bool true)], args := [d1, d2, d3] }
  | _ => none }
def checkLevelsRow : OpenClaim := { program := "ytebjiimlcnmfpaagreat", sum := "98b31db01545c53e6c30397b1abef39e182ce48e2f2f5cdc41a2b2a1dda5b5da", func := "cartouche/cartouchelaw13.CheckLevels", spec := "checkLevels", unfollowed := true, recurses := true, apart := false }
def CheckLevelsSaid : Prop := checkLevelsRow.holds Tryz.pinned (OpenSpec.ofChange checkLevelsSpec)

/-- ITS FALSE NEIGHBOUR: 'it returns false'. Refute it at one input. -/
def checkLevelsWrong : ChangeSpec := { name := "checkLevels", fn := fun _ => fun
  | [d1, d2, d3] => { results := [.lit (.bool false)], args := [d1, d2, d3] }
  | _ => none }
def CheckLevelsWrongFalsely : Prop := checkLevelsRow.holds Tryz.pinned (OpenSpec.ofChange checkLevelsWrong)

/-- 'cartouchelaw13.CheckNodes': WHATEVER THE INPUT: true; the input reads as it did. -/
def checkNodesSpec : ChangeSpec := { name := "checkNodes", fn := fun _ => fun
  | [d1, d2, d3] => { results := [.lit (.bool true)], args := [d1, d2, d3] }
  | _ => none }
def checkNodesRow : OpenClaim := { program := "ytebjiimlcnmfpaagreat", sum := "98b31db01545c53e6c30397b1abef39e182ce48e2f2f5cdc41a2b2a1dda5b5da", func := "cartouche/cartouchelaw13.CheckNodes", spec := "checkNodes", unfollowed := true, recurses := true, apart := false }
def CheckNodesSaid : Prop := checkNodesRow.holds Tryz.pinned (OpenSpec.ofChange checkNodesSpec)

/-- ITS FALSE NEIGHBOUR: 'it returns false'. Refute it at one input. -/
def checkNodesWrong : ChangeSpec := { name := "checkNodes", fn := fun _ => fun
  | [d1, d2, d3] => { results := [.lit (.bool false)], args := [d1, d2, d3] }
  | _ => none }
def CheckNodesWrongFalsely : Prop := checkNodesRow.holds Tryz.pinned (OpenSpec.ofChange checkNodesWrong)

/-- 'cartouchelaw12.JudgeTells': WHATEVER THE INPUT: true; the input reads as it did. -/
def judgeTellsSpec : ChangeSpec := { name := "judgeTells", fn := fun _ => fun
  | [d1, d2, d3] => { results := [.lit (.bool true)], args := [d1, d2, d3] }
  | _ => none }
def judgeTellsRow : OpenClaim := { program := "ytebjiimlcnmfpaagreat", sum := "98b31db01545c53e6c30397b1abef39e182ce48e2f2f5cdc41a2b2a1dda5b5da", func := "cartouche/cartouchelaw12.JudgeTells", spec := "judgeTells", unfollowed := true, recurses := true, apart := false }
def JudgeTellsSaid : Prop := judgeTellsRow.holds Tryz.pinned (OpenSpec.ofChange judgeTellsSpec)

/-- ITS FALSE NEIGHBOUR: 'it returns false'. Refute it at one input. -/
def judgeTellsWrong : ChangeSpec := { name := "judgeTells", fn := fun _ => fun
  | [d1, d2, d3] => { results := [.lit (.bool false)], args := [d1, d2, d3] }
  | _ => none }
def JudgeTellsWrongFalsely : Prop := judgeTellsRow.holds Tryz.pinned (OpenSpec.ofChange judgeTellsWrong)

/-- 'cartouchelaw12.JudgeOne': WHATEVER THE INPUT: true; the input reads as it did. -/
def judgeOneSpec : ChangeSpec := { name := "judgeOne", fn := fun _ => fun
  | [d1, d2] => { results := [.lit (.bool true)], args := [d1, d2] }
  | _ => none }
def judgeOneRow : OpenClaim := { program := "ytebjiimlcnmfpaagreat", sum := "98b31db01545c53e6c30397b1abef39e182ce48e2f2f5cdc41a2b2a1dda5b5da", func := "cartouche/cartouchelaw12.JudgeOne", spec := "judgeOne", unfollowed := true, recurses := true, apart := false }
def JudgeOneSaid : Prop := judgeOneRow.holds Tryz.pinned (OpenSpec.ofChange judgeOneSpec)

/-- ITS FALSE NEIGHBOUR: 'it returns false'. Refute it at one input. -/
def judgeOneWrong : ChangeSpec := { name := "judgeOne", fn := fun _ => fun
  | [d1, d2] => { results := [.lit (.bool false)], args := [d1, d2] }
  | _ => none }
def JudgeOneWrongFalsely : Prop := judgeOneRow.holds Tryz.pinned (OpenSpec.ofChange judgeOneWrong)

/- THE SECOND FORM. 'bulk': how many values and letters a reading holds, each counted each time it is reached (what is shared counts as often as it is met; a slice's spare places count too). A statement '..UptoSaid' is the law's where the arguments, and the package variables that the reading takes, are together of bulk at most 1048576: NARROWER than '..Said'. Prove '..Said' where nothing that the law and all that it calls make is longer than what came in: it says more and counts as full. Else prove '..UptoSaid'. A law counts once. -/
mutual
def uptoBulk {H : Type} : DataW H → Nat
  | .lit (.string bytes) => bytes.length + 1
  | .lit _ => 1
  | .nil => 1
  | .ptr d => uptoBulk d + 1
  | .slice elems spare => uptoBulkAll elems + uptoBulkAll spare + 1
  | .agg parts => uptoBulkAll parts + 1
  | .iface _ d => uptoBulk d + 1
  | .map entries => uptoBulkEntries entries + 1
  | .held _ => 1
def uptoBulkAll {H : Type} : List (DataW H) → Nat
  | [] => 0
  | d :: r => uptoBulk d + uptoBulkAll r
def uptoBulkEntries {H : Type} : List (Lit × DataW H) → Nat
  | [] => 0
  | x :: r => uptoBulkEntry x + uptoBulkEntries r
def uptoBulkEntry {H : Type} : Lit × DataW H → Nat
  | (.string bytes, d) => bytes.length + uptoBulk d + 1
  | (_, d) => uptoBulk d + 1
 end
def uptoSmall : (H : Type) → List (DataW H) → Bool := fun _ ds => decide (uptoBulkAll ds ≤ 1048576)
def OpenSpec.upto (s : _root_.Go.ChangeSpec) : _root_.Go.OpenSpec := { _root_.Go.OpenSpec.ofChange s with cond := some uptoSmall }

/-- 'cartouchelaw10.EdgesTell', WHERE WHAT IT READS IS OF BULK AT MOST 1048576: true; the input reads as it did. -/
def edgesTellUptoRow : OpenClaim := { program := "ytebjiimlcnmfpaagreat", sum := "98b31db01545c53e6c30397b1abef39e182ce48e2f2f5cdc41a2b2a1dda5b5da", func := "cartouche/cartouchelaw10.EdgesTell", spec := "edgesTell", unfollowed := true, recurses := true, apart := false, narrowed := true }
def EdgesTellUptoSaid : Prop := edgesTellUptoRow.holds Tryz.pinned (OpenSpec.upto edgesTellSpec)

/-- 'cartouchelaw12.JudgeFlat', WHERE WHAT IT READS IS OF BULK AT MOST 1048576: true; the input reads as it did. -/
def judgeFlatUptoRow : OpenClaim := { program := "ytebjiimlcnmfpaagreat", sum := "98b31db01545c53e6c30397b1abef39e182ce48e2f2f5cdc41a2b2a1dda5b5da", func := "cartouche/cartouchelaw12.JudgeFlat", spec := "judgeFlat", unfollowed := true, recurses := true, apart := false, narrowed := true }
def JudgeFlatUptoSaid : Prop := judgeFlatUptoRow.holds Tryz.pinned (OpenSpec.upto judgeFlatSpec)

/-- 'cartouchelaw12.JudgeGood', WHERE WHAT IT READS IS OF BULK AT MOST 1048576: true; the input reads as it did. -/
def judgeGoodUptoRow : OpenClaim := { program := "ytebjiimlcnmfpaagreat", sum := "98b31db01545c53e6c30397b1abef39e182ce48e2f2f5cdc41a2b2a1dda5b5da", func := "cartouche/cartouchelaw12.JudgeGood", spec := "judgeGood", unfollowed := true, recurses := true, apart := false, narrowed := true }
def JudgeGoodUptoSaid : Prop := judgeGoodUptoRow.holds Tryz.pinned (OpenSpec.upto judgeGoodSpec)

/-- 'cartouchelaw12.JudgeLevels', WHERE WHAT IT READS IS OF BULK AT MOST 1048576: true; the input reads as it did. -/
def judgeLevelsUptoRow : OpenClaim := { program := "ytebjiimlcnmfpaagreat", sum := "98b31db01545c53e6c30397b1abef39e182ce48e2f2f5cdc41a2b2a1dda5b5da", func := "cartouche/cartouchelaw12.JudgeLevels", spec := "judgeLevels", unfollowed := true, recurses := true, apart := false, narrowed := true }
def JudgeLevelsUptoSaid : Prop := judgeLevelsUptoRow.holds Tryz.pinned (OpenSpec.upto judgeLevelsSpec)

/-- 'cartouchelaw12.JudgeAlone', WHERE WHAT IT READS IS OF BULK AT MOST 1048576: true; the input reads as it did. -/
def judgeAloneUptoRow : OpenClaim := { program := "ytebjiimlcnmfpaagreat", sum := "98b31db01545c53e6c30397b1abef39e182ce48e2f2f5cdc41a2b2a1dda5b5da", func := "cartouche/cartouchelaw12.JudgeAlone", spec := "judgeAlone", unfollowed := true, recurses := true, apart := false, narrowed := true }
def JudgeAloneUptoSaid : Prop := judgeAloneUptoRow.holds Tryz.pinned (OpenSpec.upto judgeAloneSpec)

/-- 'cartouchelaw12.JudgeRing', WHERE WHAT IT READS IS OF BULK AT MOST 1048576: true; the input reads as it did. -/
def judgeRingUptoRow : OpenClaim := { program := "ytebjiimlcnmfpaagreat", sum := "98b31db01545c53e6c30397b1abef39e182ce48e2f2f5cdc41a2b2a1dda5b5da", func := "cartouche/cartouchelaw12.JudgeRing", spec := "judgeRing", unfollowed := true, recurses := true, apart := false, narrowed := true }
def JudgeRingUptoSaid : Prop := judgeRingUptoRow.holds Tryz.pinned (OpenSpec.upto judgeRingSpec)

/-- 'cartouchelaw13.CheckTells', WHERE WHAT IT READS IS OF BULK AT MOST 1048576: true; the input reads as it did. -/
def checkTellsUptoRow : OpenClaim := { program := "ytebjiimlcnmfpaagreat", sum := "98b31db01545c53e6c30397b1abef39e182ce48e2f2f5cdc41a2b2a1dda5b5da", func := "cartouche/cartouchelaw13.CheckTells", spec := "checkTells", unfollowed := true, recurses := true, apart := false, narrowed := true }
def CheckTellsUptoSaid : Prop := checkTellsUptoRow.holds Tryz.pinned (OpenSpec.upto checkTellsSpec)

/-- 'cartouchelaw13.CheckRight', WHERE WHAT IT READS IS OF BULK AT MOST 1048576: true; the input reads as it did. -/
def checkRightUptoRow : OpenClaim := { program := "ytebjiimlcnmfpaagreat", sum := "98b31db01545c53e6c30397b1abef39e182ce48e2f2f5cdc41a2b2a1dda5b5da", func := "cartouche/cartouchelaw13.CheckRight", spec := "checkRight", unfollowed := true, recurses := true, apart := false, narrowed := true }
def CheckRightUptoSaid : Prop := checkRightUptoRow.holds Tryz.pinned (OpenSpec.upto checkRightSpec)

/-- 'cartouchelaw13.CheckTakes', WHERE WHAT IT READS IS OF BULK AT MOST 1048576: true; the input reads as it did. -/
def checkTakesUptoRow : OpenClaim := { program := "ytebjiimlcnmfpaagreat", sum := "98b31db01545c53e6c30397b1abef39e182ce48e2f2f5cdc41a2b2a1dda5b5da", func := "cartouche/cartouchelaw13.CheckTakes", spec := "checkTakes", unfollowed := true, recurses := true, apart := false, narrowed := true }
def CheckTakesUptoSaid : Prop := checkTakesUptoRow.holds Tryz.pinned (OpenSpec.upto checkTakesSpec)

/-- 'cartouchelaw13.CheckTurned', WHERE WHAT IT READS IS OF BULK AT MOST 1048576: true; the input reads as it did. -/
def checkTurnedUptoRow : OpenClaim := { program := "ytebjiimlcnmfpaagreat", sum := "98b31db01545c53e6c30397b1abef39e182ce48e2f2f5cdc41a2b2a1dda5b5da", func := "cartouche/cartouchelaw13.CheckTurned", spec := "checkTurned", unfollowed := true, recurses := true, apart := false, narrowed := true }
def CheckTurnedUptoSaid : Prop := checkTurnedUptoRow.holds Tryz.pinned (OpenSpec.upto checkTurnedSpec)

/-- 'cartouchelaw13.CheckTurns', WHERE WHAT IT READS IS OF BULK AT MOST 1048576: true; the input reads as it did. -/
def checkTurnsUptoRow : OpenClaim := { program := "ytebjiimlcnmfpaagreat", sum := "98b31db01545c53e6c30397b1abef39e182ce48e2f2f5cdc41a2b2a1dda5b5da", func := "cartouche/cartouchelaw13.CheckTurns", spec := "checkTurns", unfollowed := true, recurses := true, apart := false, narrowed := true }
def CheckTurnsUptoSaid : Prop := checkTurnsUptoRow.holds Tryz.pinned (OpenSpec.upto checkTurnsSpec)

/-- 'cartouchelaw13.CheckLevels', WHERE WHAT IT READS IS OF BULK AT MOST 1048576: true; the input reads as it did. -/
def checkLevelsUptoRow : OpenClaim := { program := "ytebjiimlcnmfpaagreat", sum := "98b31db01545c53e6c30397b1abef39e182ce48e2f2f5cdc41a2b2a1dda5b5da", func := "cartouche/cartouchelaw13.CheckLevels", spec := "checkLevels", unfollowed := true, recurses := true, apart := false, narrowed := true }
def CheckLevelsUptoSaid : Prop := checkLevelsUptoRow.holds Tryz.pinned (OpenSpec.upto checkLevelsSpec)

/-- 'cartouchelaw13.CheckNodes', WHERE WHAT IT READS IS OF BULK AT MOST 1048576: true; the input reads as it did. -/
def checkNodesUptoRow : OpenClaim := { program := "ytebjiimlcnmfpaagreat", sum := "98b31db01545c53e6c30397b1abef39e182ce48e2f2f5cdc41a2b2a1dda5b5da", func := "cartouche/cartouchelaw13.CheckNodes", spec := "checkNodes", unfollowed := true, recurses := true, apart := false, narrowed := true }
def CheckNodesUptoSaid : Prop := checkNodesUptoRow.holds Tryz.pinned (OpenSpec.upto checkNodesSpec)

/-- 'cartouchelaw12.JudgeTells', WHERE WHAT IT READS IS OF BULK AT MOST 1048576: true; the input reads as it did. -/
def judgeTellsUptoRow : OpenClaim := { program := "ytebjiimlcnmfpaagreat", sum := "98b31db01545c53e6c30397b1abef39e182ce48e2f2f5cdc41a2b2a1dda5b5da", func := "cartouche/cartouchelaw12.JudgeTells", spec := "judgeTells", unfollowed := true, recurses := true, apart := false, narrowed := true }
def JudgeTellsUptoSaid : Prop := judgeTellsUptoRow.holds Tryz.pinned (OpenSpec.upto judgeTellsSpec)

/-- 'cartouchelaw12.JudgeOne', WHERE WHAT IT READS IS OF BULK AT MOST 1048576: true; the input reads as it did. -/
def judgeOneUptoRow : OpenClaim := { program := "ytebjiimlcnmfpaagreat", sum := "98b31db01545c53e6c30397b1abef39e182ce48e2f2f5cdc41a2b2a1dda5b5da", func := "cartouche/cartouchelaw12.JudgeOne", spec := "judgeOne", unfollowed := true, recurses := true, apart := false, narrowed := true }
def JudgeOneUptoSaid : Prop := judgeOneUptoRow.holds Tryz.pinned (OpenSpec.upto judgeOneSpec)

end Rows
end Go.Proofs.YtebjiimlcnmfpaaGreat
