/-
  No cell of these rows narrows 'for every input' (looked for: loops, veiled, ifaces, maps, wideKeys, modest, calm, conditions, laid).
  DERIVED. THE GIVEN ROWS OF THIS SEAT. 27 by the template 'for every input the law returns true; each argument reads behind the call as it read before'; 0 by the template 'total and deterministic' (their statements: YthjgmccpbcelgaaTotals.lean).
  GIVEN WITH THE SEED: the statements are not yours to turn. If you find one false, say at which input.
  Laid BY PROGRAM, IN A SANDBOX (cutbox-rows.mjs): the forced cells as the released guide's own fill.sh prints them over the translation 7bd43e0de4cef0b9… (all of the seat's roots in one cut). By AI agents, Wed Nov 11 2026. No macro, syntax, notation, axiom, sorry.
-/
import Derived.Test.YthjgmccpbcelgaaChecked
import GoSem.Claim
import GoSem.ClaimJoined
import GoSem.ClaimMapViews
import Derived.JoinedTies
import Derived.KernelRfl
namespace Go.Proofs.Ythjgmccpbcelgaa
/- THE CELL 'sum', in the pinned program and in every row, IS THE sha256 OF THE DUMP (.gsa) THAT YthjgmccpbcelgaaProg.lean LOADS. Nothing in Lean hashes anything: it is a label: what it is worth is what the hold of that sum in a sandbox is worth. -/
noncomputable def Try.pinned : Pinned := { name := "ythjgmccpbcelgaa", sum := "7bd43e0de4cef0b97339ffa414295f02869c6aa926228fac2e2fc048940a74a6", checked := Try.checked }
namespace Rows
def none {H : Type} : Left H := { results := [], args := [] }

/-- 'cartouchelaw09.TaintShows': WHATEVER THE INPUT: true; the input reads as it did. -/
def taintShowsSpec : ChangeSpec := { name := "taintShows", fn := fun _ => fun
  | [d1, d2] => { results := [.lit (.bool true)], args := [d1, d2] }
  | _ => none }
def taintShowsRow : OpenClaim := { program := "ythjgmccpbcelgaa", sum := "7bd43e0de4cef0b97339ffa414295f02869c6aa926228fac2e2fc048940a74a6", func := "cartouche/cartouchelaw09.TaintShows", spec := "taintShows", unfollowed := true, recurses := true, apart := false }
def TaintShowsSaid : Prop := taintShowsRow.holds Try.pinned (OpenSpec.ofChange taintShowsSpec)

/-- ITS FALSE NEIGHBOUR: 'it returns false'. Refute it at one input. -/
def taintShowsWrong : ChangeSpec := { name := "taintShows", fn := fun _ => fun
  | [d1, d2] => { results := [.lit (.bool false)], args := [d1, d2] }
  | _ => none }
def TaintShowsWrongFalsely : Prop := taintShowsRow.holds Try.pinned (OpenSpec.ofChange taintShowsWrong)

/-- 'cartouchelaw09.TaintOrder': WHATEVER THE INPUT: true; the input reads as it did. -/
def taintOrderSpec : ChangeSpec := { name := "taintOrder", fn := fun _ => fun
  | [d] => { results := [.lit (.bool true)], args := [d] }
  | _ => none }
def taintOrderRow : OpenClaim := { program := "ythjgmccpbcelgaa", sum := "7bd43e0de4cef0b97339ffa414295f02869c6aa926228fac2e2fc048940a74a6", func := "cartouche/cartouchelaw09.TaintOrder", spec := "taintOrder", unfollowed := true, recurses := true, apart := false }
def TaintOrderSaid : Prop := taintOrderRow.holds Try.pinned (OpenSpec.ofChange taintOrderSpec)

/-- ITS FALSE NEIGHBOUR: 'it returns false'. Refute it at one input. -/
def taintOrderWrong : ChangeSpec := { name := "taintOrder", fn := fun _ => fun
  | [d] => { results := [.lit (.bool false)], args := [d] }
  | _ => none }
def TaintOrderWrongFalsely : Prop := taintOrderRow.holds Try.pinned (OpenSpec.ofChange taintOrderWrong)

/-- 'cartouchelaw09.TaintTells': WHATEVER THE INPUT: true; the input reads as it did. -/
def taintTellsSpec : ChangeSpec := { name := "taintTells", fn := fun _ => fun
  | [d1, d2] => { results := [.lit (.bool true)], args := [d1, d2] }
  | _ => none }
def taintTellsRow : OpenClaim := { program := "ythjgmccpbcelgaa", sum := "7bd43e0de4cef0b97339ffa414295f02869c6aa926228fac2e2fc048940a74a6", func := "cartouche/cartouchelaw09.TaintTells", spec := "taintTells", unfollowed := true, recurses := true, apart := false }
def TaintTellsSaid : Prop := taintTellsRow.holds Try.pinned (OpenSpec.ofChange taintTellsSpec)

/-- ITS FALSE NEIGHBOUR: 'it returns false'. Refute it at one input. -/
def taintTellsWrong : ChangeSpec := { name := "taintTells", fn := fun _ => fun
  | [d1, d2] => { results := [.lit (.bool false)], args := [d1, d2] }
  | _ => none }
def TaintTellsWrongFalsely : Prop := taintTellsRow.holds Try.pinned (OpenSpec.ofChange taintTellsWrong)

/-- 'cartouchelaw09.TaintClean': WHATEVER THE INPUT: true; the input reads as it did. -/
def taintCleanSpec : ChangeSpec := { name := "taintClean", fn := fun _ => fun
  | [d] => { results := [.lit (.bool true)], args := [d] }
  | _ => none }
def taintCleanRow : OpenClaim := { program := "ythjgmccpbcelgaa", sum := "7bd43e0de4cef0b97339ffa414295f02869c6aa926228fac2e2fc048940a74a6", func := "cartouche/cartouchelaw09.TaintClean", spec := "taintClean", unfollowed := true, recurses := true, apart := false }
def TaintCleanSaid : Prop := taintCleanRow.holds Try.pinned (OpenSpec.ofChange taintCleanSpec)

/-- ITS FALSE NEIGHBOUR: 'it returns false'. Refute it at one input. -/
def taintCleanWrong : ChangeSpec := { name := "taintClean", fn := fun _ => fun
  | [d] => { results := [.lit (.bool false)], args := [d] }
  | _ => none }
def TaintCleanWrongFalsely : Prop := taintCleanRow.holds Try.pinned (OpenSpec.ofChange taintCleanWrong)

/-- 'cartouchelaw09.TaintOwn': WHATEVER THE INPUT: true; the input reads as it did. -/
def taintOwnSpec : ChangeSpec := { name := "taintOwn", fn := fun _ => fun
  | [d1, d2] => { results := [.lit (.bool true)], args := [d1, d2] }
  | _ => none }
def taintOwnRow : OpenClaim := { program := "ythjgmccpbcelgaa", sum := "7bd43e0de4cef0b97339ffa414295f02869c6aa926228fac2e2fc048940a74a6", func := "cartouche/cartouchelaw09.TaintOwn", spec := "taintOwn", unfollowed := true, recurses := true, apart := false }
def TaintOwnSaid : Prop := taintOwnRow.holds Try.pinned (OpenSpec.ofChange taintOwnSpec)

/-- ITS FALSE NEIGHBOUR: 'it returns false'. Refute it at one input. -/
def taintOwnWrong : ChangeSpec := { name := "taintOwn", fn := fun _ => fun
  | [d1, d2] => { results := [.lit (.bool false)], args := [d1, d2] }
  | _ => none }
def TaintOwnWrongFalsely : Prop := taintOwnRow.holds Try.pinned (OpenSpec.ofChange taintOwnWrong)

/-- 'cartouchelaw09.TaintAborts': WHATEVER THE INPUT: true; the input reads as it did. -/
def taintAbortsSpec : ChangeSpec := { name := "taintAborts", fn := fun _ => fun
  | [d1, d2] => { results := [.lit (.bool true)], args := [d1, d2] }
  | _ => none }
def taintAbortsRow : OpenClaim := { program := "ythjgmccpbcelgaa", sum := "7bd43e0de4cef0b97339ffa414295f02869c6aa926228fac2e2fc048940a74a6", func := "cartouche/cartouchelaw09.TaintAborts", spec := "taintAborts", unfollowed := true, recurses := true, apart := false }
def TaintAbortsSaid : Prop := taintAbortsRow.holds Try.pinned (OpenSpec.ofChange taintAbortsSpec)

/-- ITS FALSE NEIGHBOUR: 'it returns false'. Refute it at one input. -/
def taintAbortsWrong : ChangeSpec := { name := "taintAborts", fn := fun _ => fun
  | [d1, d2] => { results := [.lit (.bool false)], args := [d1, d2] }
  | _ => none }
def TaintAbortsWrongFalsely : Prop := taintAbortsRow.holds Try.pinned (OpenSpec.ofChange taintAbortsWrong)

/-- 'cartouchelaw11.RingMade': WHATEVER THE INPUT: true; the input reads as it did. -/
def ringMadeSpec : ChangeSpec := { name := "ringMade", fn := fun _ => fun
  | [d] => { results := [.lit (.bool true)], args := [d] }
  | _ => none }
def ringMadeRow : OpenClaim := { program := "ythjgmccpbcelgaa", sum := "7bd43e0de4cef0b97339ffa414295f02869c6aa926228fac2e2fc048940a74a6", func := "cartouche/cartouchelaw11.RingMade", spec := "ringMade", unfollowed := true, recurses := true, apart := false }
def RingMadeSaid : Prop := ringMadeRow.holds Try.pinned (OpenSpec.ofChange ringMadeSpec)

/-- ITS FALSE NEIGHBOUR: 'it returns false'. Refute it at one input. -/
def ringMadeWrong : ChangeSpec := { name := "ringMade", fn := fun _ => fun
  | [d] => { results := [.lit (.bool false)], args := [d] }
  | _ => none }
def RingMadeWrongFalsely : Prop := ringMadeRow.holds Try.pinned (OpenSpec.ofChange ringMadeWrong)

/-- 'cartouchelaw11.RingFinds': WHATEVER THE INPUT: true; the input reads as it did. -/
def ringFindsSpec : ChangeSpec := { name := "ringFinds", fn := fun _ => fun
  | [d] => { results := [.lit (.bool true)], args := [d] }
  | _ => none }
def ringFindsRow : OpenClaim := { program := "ythjgmccpbcelgaa", sum := "7bd43e0de4cef0b97339ffa414295f02869c6aa926228fac2e2fc048940a74a6", func := "cartouche/cartouchelaw11.RingFinds", spec := "ringFinds", unfollowed := true, recurses := true, apart := false }
def RingFindsSaid : Prop := ringFindsRow.holds Try.pinned (OpenSpec.ofChange ringFindsSpec)

/-- ITS FALSE NEIGHBOUR: 'it returns false'. Refute it at one input. -/
def ringFindsWrong : ChangeSpec := { name := "ringFinds", fn := fun _ => fun
  | [d] => { results := [.lit (.bool false)], args := [d] }
  | _ => none }
def RingFindsWrongFalsely : Prop := ringFindsRow.holds Try.pinned (OpenSpec.ofChange ringFindsWrong)

/-- 'cartouchelaw11.RingTurns': WHATEVER THE INPUT: true; the input reads as it did. -/
def ringTurnsSpec : ChangeSpec := { name := "ringTurns", fn := fun _ => fun
  | [d1, d2] => { results := [.lit (.bool true)], args := [d1, d2] }
  | _ => none }
def ringTurnsRow : OpenClaim := { program := "ythjgmccpbcelgaa", sum := "7bd43e0de4cef0b97339ffa414295f02869c6aa926228fac2e2fc048940a74a6", func := "cartouche/cartouchelaw11.RingTurns", spec := "ringTurns", unfollowed := true, recurses := true, apart := false }
def RingTurnsSaid : Prop := ringTurnsRow.holds Try.pinned (OpenSpec.ofChange ringTurnsSpec)

/-- ITS FALSE NEIGHBOUR: 'it returns false'. Refute it at one input. -/
def ringTurnsWrong : ChangeSpec := { name := "ringTurns", fn := fun _ => fun
  | [d1, d2] => { results := [.lit (.bool false)], args := [d1, d2] }
  | _ => none }
def RingTurnsWrongFalsely : Prop := ringTurnsRow.holds Try.pinned (OpenSpec.ofChange ringTurnsWrong)

/-- 'cartouchelaw11.RingShort': WHATEVER THE INPUT: true; the input reads as it did. -/
def ringShortSpec : ChangeSpec := { name := "ringShort", fn := fun _ => fun
  | [d1, d2, d3] => { results := [.lit (.bool true)], args := [d1, d2, d3] }
  | _ => none }
def ringShortRow : OpenClaim := { program := "ythjgmccpbcelgaa", sum := "7bd43e0de4cef0b97339ffa414295f02869c6aa926228fac2e2fc048940a74a6", func := "cartouche/cartouchelaw11.RingShort", spec := "ringShort", unfollowed := true, recurses := true, apart := false }
def RingShortSaid : Prop := ringShortRow.holds Try.pinned (OpenSpec.ofChange ringShortSpec)

/-- ITS FALSE NEIGHBOUR: 'it returns false'. Refute it at one input. -/
def ringShortWrong : ChangeSpec := { name := "ringShort", fn := fun _ => fun
  | [d1, d2, d3] => { results := [.lit (.bool false)], args := [d1, d2, d3] }
  | _ => none }
def RingShortWrongFalsely : Prop := ringShortRow.holds Try.pinned (OpenSpec.ofChange ringShortWrong)

/-- 'cartouchelaw11.RingOrders': WHATEVER THE INPUT: true; the input reads as it did. -/
def ringOrdersSpec : ChangeSpec := { name := "ringOrders", fn := fun _ => fun
  | [d1, d2, d3] => { results := [.lit (.bool true)], args := [d1, d2, d3] }
  | _ => none }
def ringOrdersRow : OpenClaim := { program := "ythjgmccpbcelgaa", sum := "7bd43e0de4cef0b97339ffa414295f02869c6aa926228fac2e2fc048940a74a6", func := "cartouche/cartouchelaw11.RingOrders", spec := "ringOrders", unfollowed := true, recurses := true, apart := false }
def RingOrdersSaid : Prop := ringOrdersRow.holds Try.pinned (OpenSpec.ofChange ringOrdersSpec)

/-- ITS FALSE NEIGHBOUR: 'it returns false'. Refute it at one input. -/
def ringOrdersWrong : ChangeSpec := { name := "ringOrders", fn := fun _ => fun
  | [d1, d2, d3] => { results := [.lit (.bool false)], args := [d1, d2, d3] }
  | _ => none }
def RingOrdersWrongFalsely : Prop := ringOrdersRow.holds Try.pinned (OpenSpec.ofChange ringOrdersWrong)

/-- 'cartouchelaw11.RingKeeps': WHATEVER THE INPUT: true; the input reads as it did. -/
def ringKeepsSpec : ChangeSpec := { name := "ringKeeps", fn := fun _ => fun
  | [d1, d2, d3] => { results := [.lit (.bool true)], args := [d1, d2, d3] }
  | _ => none }
def ringKeepsRow : OpenClaim := { program := "ythjgmccpbcelgaa", sum := "7bd43e0de4cef0b97339ffa414295f02869c6aa926228fac2e2fc048940a74a6", func := "cartouche/cartouchelaw11.RingKeeps", spec := "ringKeeps", unfollowed := true, recurses := true, apart := false }
def RingKeepsSaid : Prop := ringKeepsRow.holds Try.pinned (OpenSpec.ofChange ringKeepsSpec)

/-- ITS FALSE NEIGHBOUR: 'it returns false'. Refute it at one input. -/
def ringKeepsWrong : ChangeSpec := { name := "ringKeeps", fn := fun _ => fun
  | [d1, d2, d3] => { results := [.lit (.bool false)], args := [d1, d2, d3] }
  | _ => none }
def RingKeepsWrongFalsely : Prop := ringKeepsRow.holds Try.pinned (OpenSpec.ofChange ringKeepsWrong)

/-- 'cartouchelaw11.RingEither': WHATEVER THE INPUT: true; the input reads as it did. -/
def ringEitherSpec : ChangeSpec := { name := "ringEither", fn := fun _ => fun
  | [d] => { results := [.lit (.bool true)], args := [d] }
  | _ => none }
def ringEitherRow : OpenClaim := { program := "ythjgmccpbcelgaa", sum := "7bd43e0de4cef0b97339ffa414295f02869c6aa926228fac2e2fc048940a74a6", func := "cartouche/cartouchelaw11.RingEither", spec := "ringEither", unfollowed := true, recurses := true, apart := false }
def RingEitherSaid : Prop := ringEitherRow.holds Try.pinned (OpenSpec.ofChange ringEitherSpec)

/-- ITS FALSE NEIGHBOUR: 'it returns false'. Refute it at one input. -/
def ringEitherWrong : ChangeSpec := { name := "ringEither", fn := fun _ => fun
  | [d] => { results := [.lit (.bool false)], args := [d] }
  | _ => none }
def RingEitherWrongFalsely : Prop := ringEitherRow.holds Try.pinned (OpenSpec.ofChange ringEitherWrong)

/-- 'cartouchelaw08.HistoryForms': WHATEVER THE INPUT: true; the input reads as it did. -/
def historyFormsSpec : ChangeSpec := { name := "historyForms", fn := fun _ => fun
  | [d] => { results := [.lit (.bool true)], args := [d] }
  | _ => none }
def historyFormsRow : OpenClaim := { program := "ythjgmccpbcelgaa", sum := "7bd43e0de4cef0b97339ffa414295f02869c6aa926228fac2e2fc048940a74a6", func := "cartouche/cartouchelaw08.HistoryForms", spec := "historyForms", unfollowed := true, recurses := true, apart := false }
def HistoryFormsSaid : Prop := historyFormsRow.holds Try.pinned (OpenSpec.ofChange historyFormsSpec)

/-- ITS FALSE NEIGHBOUR: 'it returns false'. Refute it at one input. -/
def historyFormsWrong : ChangeSpec := { name := "historyForms", fn := fun _ => fun
  | [d] => { results := [.lit (.bool false)], args := [d] }
  | _ => none }
def HistoryFormsWrongFalsely : Prop := historyFormsRow.holds Try.pinned (OpenSpec.ofChange historyFormsWrong)

/-- 'cartouchelaw08.HistoryWrites': WHATEVER THE INPUT: true; the input reads as it did. -/
def historyWritesSpec : ChangeSpec := { name := "historyWrites", fn := fun _ => fun
  | [d] => { results := [.lit (.bool true)], args := [d] }
  | _ => none }
def historyWritesRow : OpenClaim := { program := "ythjgmccpbcelgaa", sum := "7bd43e0de4cef0b97339ffa414295f02869c6aa926228fac2e2fc048940a74a6", func := "cartouche/cartouchelaw08.HistoryWrites", spec := "historyWrites", unfollowed := true, recurses := true, apart := false }
def HistoryWritesSaid : Prop := historyWritesRow.holds Try.pinned (OpenSpec.ofChange historyWritesSpec)

/-- ITS FALSE NEIGHBOUR: 'it returns false'. Refute it at one input. -/
def historyWritesWrong : ChangeSpec := { name := "historyWrites", fn := fun _ => fun
  | [d] => { results := [.lit (.bool false)], args := [d] }
  | _ => none }
def HistoryWritesWrongFalsely : Prop := historyWritesRow.holds Try.pinned (OpenSpec.ofChange historyWritesWrong)

/-- 'cartouchelaw08.HistoryPrefix': WHATEVER THE INPUT: true; the input reads as it did. -/
def historyPrefixSpec : ChangeSpec := { name := "historyPrefix", fn := fun _ => fun
  | [d1, d2] => { results := [.lit (.bool true)], args := [d1, d2] }
  | _ => none }
def historyPrefixRow : OpenClaim := { program := "ythjgmccpbcelgaa", sum := "7bd43e0de4cef0b97339ffa414295f02869c6aa926228fac2e2fc048940a74a6", func := "cartouche/cartouchelaw08.HistoryPrefix", spec := "historyPrefix", unfollowed := true, recurses := true, apart := false }
def HistoryPrefixSaid : Prop := historyPrefixRow.holds Try.pinned (OpenSpec.ofChange historyPrefixSpec)

/-- ITS FALSE NEIGHBOUR: 'it returns false'. Refute it at one input. -/
def historyPrefixWrong : ChangeSpec := { name := "historyPrefix", fn := fun _ => fun
  | [d1, d2] => { results := [.lit (.bool false)], args := [d1, d2] }
  | _ => none }
def HistoryPrefixWrongFalsely : Prop := historyPrefixRow.holds Try.pinned (OpenSpec.ofChange historyPrefixWrong)

/-- 'cartouchelaw08.HistoryLast': WHATEVER THE INPUT: true; the input reads as it did. -/
def historyLastSpec : ChangeSpec := { name := "historyLast", fn := fun _ => fun
  | [d] => { results := [.lit (.bool true)], args := [d] }
  | _ => none }
def historyLastRow : OpenClaim := { program := "ythjgmccpbcelgaa", sum := "7bd43e0de4cef0b97339ffa414295f02869c6aa926228fac2e2fc048940a74a6", func := "cartouche/cartouchelaw08.HistoryLast", spec := "historyLast", unfollowed := true, recurses := true, apart := false }
def HistoryLastSaid : Prop := historyLastRow.holds Try.pinned (OpenSpec.ofChange historyLastSpec)

/-- ITS FALSE NEIGHBOUR: 'it returns false'. Refute it at one input. -/
def historyLastWrong : ChangeSpec := { name := "historyLast", fn := fun _ => fun
  | [d] => { results := [.lit (.bool false)], args := [d] }
  | _ => none }
def HistoryLastWrongFalsely : Prop := historyLastRow.holds Try.pinned (OpenSpec.ofChange historyLastWrong)

/-- 'cartouchelaw08.HistoryOnce': WHATEVER THE INPUT: true; the input reads as it did. -/
def historyOnceSpec : ChangeSpec := { name := "historyOnce", fn := fun _ => fun
  | [d] => { results := [.lit (.bool true)], args := [d] }
  | _ => none }
def historyOnceRow : OpenClaim := { program := "ythjgmccpbcelgaa", sum := "7bd43e0de4cef0b97339ffa414295f02869c6aa926228fac2e2fc048940a74a6", func := "cartouche/cartouchelaw08.HistoryOnce", spec := "historyOnce", unfollowed := true, recurses := true, apart := false }
def HistoryOnceSaid : Prop := historyOnceRow.holds Try.pinned (OpenSpec.ofChange historyOnceSpec)

/-- ITS FALSE NEIGHBOUR: 'it returns false'. Refute it at one input. -/
def historyOnceWrong : ChangeSpec := { name := "historyOnce", fn := fun _ => fun
  | [d] => { results := [.lit (.bool false)], args := [d] }
  | _ => none }
def HistoryOnceWrongFalsely : Prop := historyOnceRow.holds Try.pinned (OpenSpec.ofChange historyOnceWrong)

/-- 'cartouchelaw08.HistoryVersions': WHATEVER THE INPUT: true; the input reads as it did. -/
def historyVersionsSpec : ChangeSpec := { name := "historyVersions", fn := fun _ => fun
  | [d1, d2] => { results := [.lit (.bool true)], args := [d1, d2] }
  | _ => none }
def historyVersionsRow : OpenClaim := { program := "ythjgmccpbcelgaa", sum := "7bd43e0de4cef0b97339ffa414295f02869c6aa926228fac2e2fc048940a74a6", func := "cartouche/cartouchelaw08.HistoryVersions", spec := "historyVersions", unfollowed := true, recurses := true, apart := false }
def HistoryVersionsSaid : Prop := historyVersionsRow.holds Try.pinned (OpenSpec.ofChange historyVersionsSpec)

/-- ITS FALSE NEIGHBOUR: 'it returns false'. Refute it at one input. -/
def historyVersionsWrong : ChangeSpec := { name := "historyVersions", fn := fun _ => fun
  | [d1, d2] => { results := [.lit (.bool false)], args := [d1, d2] }
  | _ => none }
def HistoryVersionsWrongFalsely : Prop := historyVersionsRow.holds Try.pinned (OpenSpec.ofChange historyVersionsWrong)

/-- 'cartouchelaw08.HistoryGrows': WHATEVER THE INPUT: true; the input reads as it did. -/
def historyGrowsSpec : ChangeSpec := { name := "historyGrows", fn := fun _ => fun
  | [d1, d2, d3] => { results := [.lit (.bool true)], args := [d1, d2, d3] }
  | _ => none }
def historyGrowsRow : OpenClaim := { program := "ythjgmccpbcelgaa", sum := "7bd43e0de4cef0b97339ffa414295f02869c6aa926228fac2e2fc048940a74a6", func := "cartouche/cartouchelaw08.HistoryGrows", spec := "historyGrows", unfollowed := true, recurses := true, apart := false }
def HistoryGrowsSaid : Prop := historyGrowsRow.holds Try.pinned (OpenSpec.ofChange historyGrowsSpec)

/-- ITS FALSE NEIGHBOUR: 'it returns false'. Refute it at one input. -/
def historyGrowsWrong : ChangeSpec := { name := "historyGrows", fn := fun _ => fun
  | [d1, d2, d3] => { results := [.lit (.bool false)], args := [d1, d2, d3] }
  | _ => none }
def HistoryGrowsWrongFalsely : Prop := historyGrowsRow.holds Try.pinned (OpenSpec.ofChange historyGrowsWrong)

/-- 'cartouchelaw10.EdgesApart': WHATEVER THE INPUT: true; the input reads as it did. -/
def edgesApartSpec : ChangeSpec := { name := "edgesApart", fn := fun _ => fun
  | [d] => { results := [.lit (.bool true)], args := [d] }
  | _ => none }
def edgesApartRow : OpenClaim := { program := "ythjgmccpbcelgaa", sum := "7bd43e0de4cef0b97339ffa414295f02869c6aa926228fac2e2fc048940a74a6", func := "cartouche/cartouchelaw10.EdgesApart", spec := "edgesApart", unfollowed := true, recurses := true, apart := false }
def EdgesApartSaid : Prop := edgesApartRow.holds Try.pinned (OpenSpec.ofChange edgesApartSpec)

/-- ITS FALSE NEIGHBOUR: 'it returns false'. Refute it at one input. -/
def edgesApartWrong : ChangeSpec := { name := "edgesApart", fn := fun _ => fun
  | [d] => { results := [.lit (.bool false)], args := [d] }
  | _ => none }
def EdgesApartWrongFalsely : Prop := edgesApartRow.holds Try.pinned (OpenSpec.ofChange edgesApartWrong)

/-- 'cartouchelaw10.EdgesReads': WHATEVER THE INPUT: true; the input reads as it did. -/
def edgesReadsSpec : ChangeSpec := { name := "edgesReads", fn := fun _ => fun
  | [d] => { results := [.lit (.bool true)], args := [d] }
  | _ => none }
def edgesReadsRow : OpenClaim := { program := "ythjgmccpbcelgaa", sum := "7bd43e0de4cef0b97339ffa414295f02869c6aa926228fac2e2fc048940a74a6", func := "cartouche/cartouchelaw10.EdgesReads", spec := "edgesReads", unfollowed := true, recurses := true, apart := false }
def EdgesReadsSaid : Prop := edgesReadsRow.holds Try.pinned (OpenSpec.ofChange edgesReadsSpec)

/-- ITS FALSE NEIGHBOUR: 'it returns false'. Refute it at one input. -/
def edgesReadsWrong : ChangeSpec := { name := "edgesReads", fn := fun _ => fun
  | [d] => { results := [.lit (.bool false)], args := [d] }
  | _ => none }
def EdgesReadsWrongFalsely : Prop := edgesReadsRow.holds Try.pinned (OpenSpec.ofChange edgesReadsWrong)

/-- 'cartouchelaw08.HistoryLives': WHATEVER THE INPUT: true; the input reads as it did. -/
def historyLivesSpec : ChangeSpec := { name := "historyLives", fn := fun _ => fun
  | [d1, d2] => { results := [.lit (.bool true)], args := [d1, d2] }
  | _ => none }
def historyLivesRow : OpenClaim := { program := "ythjgmccpbcelgaa", sum := "7bd43e0de4cef0b97339ffa414295f02869c6aa926228fac2e2fc048940a74a6", func := "cartouche/cartouchelaw08.HistoryLives", spec := "historyLives", unfollowed := true, recurses := true, apart := false }
def HistoryLivesSaid : Prop := historyLivesRow.holds Try.pinned (OpenSpec.ofChange historyLivesSpec)

/-- ITS FALSE NEIGHBOUR: 'it returns false'. Refute it at one input. -/
def historyLivesWrong : ChangeSpec := { name := "historyLives", fn := fun _ => fun
  | [d1, d2] => { results := [.lit (.bool false)], args := [d1, d2] }
  | _ => none }
def HistoryLivesWrongFalsely : Prop := historyLivesRow.holds Try.pinned (OpenSpec.ofChange historyLivesWrong)

/-- 'cartouchelaw10.EdgesStep': WHATEVER THE INPUT: true; the input reads as it did. -/
def edgesStepSpec : ChangeSpec := { name := "edgesStep", fn := fun _ => fun
  | [d1, d2] => { results := [.lit (.bool true)], args := [d1, d2] }
  | _ => none }
def edgesStepRow : OpenClaim := { program := "ythjgmccpbcelgaa", sum := "7bd43e0de4cef0b97339ffa414295f02869c6aa926228fac2e2fc048940a74a6", func := "cartouche/cartouchelaw10.EdgesStep", spec := "edgesStep", unfollowed := true, recurses := true, apart := false }
def EdgesStepSaid : Prop := edgesStepRow.holds Try.pinned (OpenSpec.ofChange edgesStepSpec)

/-- ITS FALSE NEIGHBOUR: 'it returns false'. Refute it at one input. -/
def edgesStepWrong : ChangeSpec := { name := "edgesStep", fn := fun _ => fun
  | [d1, d2] => { results := [.lit (.bool false)], args := [d1, d2] }
  | _ => none }
def EdgesStepWrongFalsely : Prop := edgesStepRow.holds Try.pinned (OpenSpec.ofChange edgesStepWrong)

/-- 'cartouchelaw10.EdgesSteps': WHATEVER THE INPUT: true; the input reads as it did. -/
def edgesStepsSpec : ChangeSpec := { name := "edgesSteps", fn := fun _ => fun
  | [d1, d2] => { results := [.lit (.bool true)], args := [d1, d2] }
  | _ => none }
def edgesStepsRow : OpenClaim := { program := "ythjgmccpbcelgaa", sum := "7bd43e0de4cef0b97339ffa414295f02869c6aa926228fac2e2fc048940a74a6", func := "cartouche/cartouchelaw10.EdgesSteps", spec := "edgesSteps", unfollowed := true, recurses := true, apart := false }
def EdgesStepsSaid : Prop := edgesStepsRow.holds Try.pinned (OpenSpec.ofChange edgesStepsSpec)

/-- ITS FALSE NEIGHBOUR: 'it returns false'. Refute it at one input. -/
def edgesStepsWrong : ChangeSpec := { name := "edgesSteps", fn := fun _ => fun
  | [d1, d2] => { results := [.lit (.bool false)], args := [d1, d2] }
  | _ => none }
def EdgesStepsWrongFalsely : Prop := edgesStepsRow.holds Try.pinned (OpenSpec.ofChange edgesStepsWrong)

/-- 'cartouchelaw10.EdgesHold': WHATEVER THE INPUT: true; the input reads as it did. -/
def edgesHoldSpec : ChangeSpec := { name := "edgesHold", fn := fun _ => fun
  | [d] => { results := [.lit (.bool true)], args := [d] }
  | _ => none }
def edgesHoldRow : OpenClaim := { program := "ythjgmccpbcelgaa", sum := "7bd43e0de4cef0b97339ffa414295f02869c6aa926228fac2e2fc048940a74a6", func := "cartouche/cartouchelaw10.EdgesHold", spec := "edgesHold", unfollowed := true, recurses := true, apart := false }
def EdgesHoldSaid : Prop := edgesHoldRow.holds Try.pinned (OpenSpec.ofChange edgesHoldSpec)

/-- ITS FALSE NEIGHBOUR: 'it returns false'. Refute it at one input. -/
def edgesHoldWrong : ChangeSpec := { name := "edgesHold", fn := fun _ => fun
  | [d] => { results := [.lit (.bool false)], args := [d] }
  | _ => none }
def EdgesHoldWrongFalsely : Prop := edgesHoldRow.holds Try.pinned (OpenSpec.ofChange edgesHoldWrong)

/-- 'cartouchelaw10.EdgesFollow': WHATEVER THE INPUT: true; the input reads as it did. -/
def edgesFollowSpec : ChangeSpec := { name := "edgesFollow", fn := fun _ => fun
  | [d1, d2] => { results := [.lit (.bool true)], args := [d1, d2] }
  | _ => none }
def edgesFollowRow : OpenClaim := { program := "ythjgmccpbcelgaa", sum := "7bd43e0de4cef0b97339ffa414295f02869c6aa926228fac2e2fc048940a74a6", func := "cartouche/cartouchelaw10.EdgesFollow", spec := "edgesFollow", unfollowed := true, recurses := true, apart := false }
def EdgesFollowSaid : Prop := edgesFollowRow.holds Try.pinned (OpenSpec.ofChange edgesFollowSpec)

/-- ITS FALSE NEIGHBOUR: 'it returns false'. Refute it at one input. -/
def edgesFollowWrong : ChangeSpec := { name := "edgesFollow", fn := fun _ => fun
  | [d1, d2] => { results := [.lit (.bool false)], args := [d1, d2] }
  | _ => none }
def EdgesFollowWrongFalsely : Prop := edgesFollowRow.holds Try.pinned (OpenSpec.ofChange edgesFollowWrong)

/- THE SECOND FORM. 'bulk': how many values and letters a reading holds, each counted each time it is reached (what is shared counts as often as it is met; a slice's spare places count too). A statement '..UptoSaid' is the law's where the arguments, and the package variables that the reading takes, are together of bulk at most 1048576: NARROWER than '..Said'. Prove '..Said' where nothing that the law and all that it calls make is longer than what came in: it says more and counts as full. Else prove '..UptoSaid'. A law counts once. -/
mutual
def uptoBulk {H : Type} : DataW H → Nat
  | .lit (.string bytes) => bytes.length + 1
  | .lit _ => 1
  | .nil => 1
  | .ptr d => uptoBulk d + 1
  | .slice elems spare => uptoBulkAll elems + uptoBulkAll spare + 1
  | .agg parts => uptoBulkAll parts + 1
  | .iface _ d => uptoBulk d + 1
  | .map entries => uptoBulkEntries entries + 1
  | .held _ => 1
def uptoBulkAll {H : Type} : List (DataW H) → Nat
  | [] => 0
  | d :: r => uptoBulk d + uptoBulkAll r
def uptoBulkEntries {H : Type} : List (Lit × DataW H) → Nat
  | [] => 0
  | x :: r => uptoBulkEntry x + uptoBulkEntries r
def uptoBulkEntry {H : Type} : Lit × DataW H → Nat
  | (.string bytes, d) => bytes.length + uptoBulk d + 1
  | (_, d) => uptoBulk d + 1
 end
def uptoSmall : (H : Type) → List (DataW H) → Bool := fun _ ds => decide (uptoBulkAll ds ≤ 1048576)
def OpenSpec.upto (s : _root_.Go.ChangeSpec) : _root_.Go.OpenSpec := { _root_.Go.OpenSpec.ofChange s with cond := some uptoSmall }

/-- 'cartouchelaw09.TaintShows', WHERE WHAT IT READS IS OF BULK AT MOST 1048576: true; the input reads as it did. -/
def taintShowsUptoRow : OpenClaim := { program := "ythjgmccpbcelgaa", sum := "7bd43e0de4cef0b97339ffa414295f02869c6aa926228fac2e2fc048940a74a6", func := "cartouche/cartouchelaw09.TaintShows", spec := "taintShows", unfollowed := true, recurses := true, apart := false, narrowed := true }
def TaintShowsUptoSaid : Prop := taintShowsUptoRow.holds Try.pinned (OpenSpec.upto taintShowsSpec)

/-- 'cartouchelaw09.TaintOrder', WHERE WHAT IT READS IS OF BULK AT MOST 1048576: true; the input reads as it did. -/
def taintOrderUptoRow : OpenClaim := { program := "ythjgmccpbcelgaa", sum := "7bd43e0de4cef0b97339ffa414295f02869c6aa926228fac2e2fc048940a74a6", func := "cartouche/cartouchelaw09.TaintOrder", spec := "taintOrder", unfollowed := true, recurses := true, apart := false, narrowed := true }
def TaintOrderUptoSaid : Prop := taintOrderUptoRow.holds Try.pinned (OpenSpec.upto taintOrderSpec)

/-- 'cartouchelaw09.TaintTells', WHERE WHAT IT READS IS OF BULK AT MOST 1048576: true; the input reads as it did. -/
def taintTellsUptoRow : OpenClaim := { program := "ythjgmccpbcelgaa", sum := "7bd43e0de4cef0b97339ffa414295f02869c6aa926228fac2e2fc048940a74a6", func := "cartouche/cartouchelaw09.TaintTells", spec := "taintTells", unfollowed := true, recurses := true, apart := false, narrowed := true }
def TaintTellsUptoSaid : Prop := taintTellsUptoRow.holds Try.pinned (OpenSpec.upto taintTellsSpec)

/-- 'cartouchelaw09.TaintClean', WHERE WHAT IT READS IS OF BULK AT MOST 1048576: true; the input reads as it did. -/
def taintCleanUptoRow : OpenClaim := { program := "ythjgmccpbcelgaa", sum := "7bd43e0de4cef0b97339ffa414295f02869c6aa926228fac2e2fc048940a74a6", func := "cartouche/cartouchelaw09.TaintClean", spec := "taintClean", unfollowed := true, recurses := true, apart := false, narrowed := true }
def TaintCleanUptoSaid : Prop := taintCleanUptoRow.holds Try.pinned (OpenSpec.upto taintCleanSpec)

/-- 'cartouchelaw09.TaintOwn', WHERE WHAT IT READS IS OF BULK AT MOST 1048576: true; the input reads as it did. -/
def taintOwnUptoRow : OpenClaim := { program := "ythjgmccpbcelgaa", sum := "7bd43e0de4cef0b97339ffa414295f02869c6aa926228fac2e2fc048940a74a6", func := "cartouche/cartouchelaw09.TaintOwn", spec := "taintOwn", unfollowed := true, recurses := true, apart := false, narrowed := true }
def TaintOwnUptoSaid : Prop := taintOwnUptoRow.holds Try.pinned (OpenSpec.upto taintOwnSpec)

/-- 'cartouchelaw09.TaintAborts', WHERE WHAT IT READS IS OF BULK AT MOST 1048576: true; the input reads as it did. -/
def taintAbortsUptoRow : OpenClaim := { program := "ythjgmccpbcelgaa", sum := "7bd43e0de4cef0b97339ffa414295f02869c6aa926228fac2e2fc048940a74a6", func := "cartouche/cartouchelaw09.TaintAborts", spec := "taintAborts", unfollowed := true, recurses := true, apart := false, narrowed := true }
def TaintAbortsUptoSaid : Prop := taintAbortsUptoRow.holds Try.pinned (OpenSpec.upto taintAbortsSpec)

/-- 'cartouchelaw11.RingMade', WHERE WHAT IT READS IS OF BULK AT MOST 1048576: true; the input reads as it did. -/
def ringMadeUptoRow : OpenClaim := { program := "ythjgmccpbcelgaa", sum := "7bd43e0de4cef0b97339ffa414295f02869c6aa926228fac2e2fc048940a74a6", func := "cartouche/cartouchelaw11.RingMade", spec := "ringMade", unfollowed := true, recurses := true, apart := false, narrowed := true }
def RingMadeUptoSaid : Prop := ringMadeUptoRow.holds Try.pinned (OpenSpec.upto ringMadeSpec)

/-- 'cartouchelaw11.RingFinds', WHERE WHAT IT READS IS OF BULK AT MOST 1048576: true; the input reads as it did. -/
def ringFindsUptoRow : OpenClaim := { program := "ythjgmccpbcelgaa", sum := "7bd43e0de4cef0b97339ffa414295f02869c6aa926228fac2e2fc048940a74a6", func := "cartouche/cartouchelaw11.RingFinds", spec := "ringFinds", unfollowed := true, recurses := true, apart := false, narrowed := true }
def RingFindsUptoSaid : Prop := ringFindsUptoRow.holds Try.pinned (OpenSpec.upto ringFindsSpec)

/-- 'cartouchelaw11.RingTurns', WHERE WHAT IT READS IS OF BULK AT MOST 1048576: true; the input reads as it did. -/
def ringTurnsUptoRow : OpenClaim := { program := "ythjgmccpbcelgaa", sum := "7bd43e0de4cef0b97339ffa414295f02869c6aa926228fac2e2fc048940a74a6", func := "cartouche/cartouchelaw11.RingTurns", spec := "ringTurns", unfollowed := true, recurses := true, apart := false, narrowed := true }
def RingTurnsUptoSaid : Prop := ringTurnsUptoRow.holds Try.pinned (OpenSpec.upto ringTurnsSpec)

/-- 'cartouchelaw11.RingShort', WHERE WHAT IT READS IS OF BULK AT MOST 1048576: true; the input reads as it did. -/
def ringShortUptoRow : OpenClaim := { program := "ythjgmccpbcelgaa", sum := "7bd43e0de4cef0b97339ffa414295f02869c6aa926228fac2e2fc048940a74a6", func := "cartouche/cartouchelaw11.RingShort", spec := "ringShort", unfollowed := true, recurses := true, apart := false, narrowed := true }
def RingShortUptoSaid : Prop := ringShortUptoRow.holds Try.pinned (OpenSpec.upto ringShortSpec)

/-- 'cartouchelaw11.RingOrders', WHERE WHAT IT READS IS OF BULK AT MOST 1048576: true; the input reads as it did. -/
def ringOrdersUptoRow : OpenClaim := { program := "ythjgmccpbcelgaa", sum := "7bd43e0de4cef0b97339ffa414295f02869c6aa926228fac2e2fc048940a74a6", func := "cartouche/cartouchelaw11.RingOrders", spec := "ringOrders", unfollowed := true, recurses := true, apart := false, narrowed := true }
def RingOrdersUptoSaid : Prop := ringOrdersUptoRow.holds Try.pinned (OpenSpec.upto ringOrdersSpec)

/-- 'cartouchelaw11.RingKeeps', WHERE WHAT IT READS IS OF BULK AT MOST 1048576: true; the input reads as it did. -/
def ringKeepsUptoRow : OpenClaim := { program := "ythjgmccpbcelgaa", sum := "7bd43e0de4cef0b97339ffa414295f02869c6aa926228fac2e2fc048940a74a6", func := "cartouche/cartouchelaw11.RingKeeps", spec := "ringKeeps", unfollowed := true, recurses := true, apart := false, narrowed := true }
def RingKeepsUptoSaid : Prop := ringKeepsUptoRow.holds Try.pinned (OpenSpec.upto ringKeepsSpec)

/-- 'cartouchelaw11.RingEither', WHERE WHAT IT READS IS OF BULK AT MOST 1048576: true; the input reads as it did. -/
def ringEitherUptoRow : OpenClaim := { program := "ythjgmccpbcelgaa", sum := "7bd43e0de4cef0b97339ffa414295f02869c6aa926228fac2e2fc048940a74a6", func := "cartouche/cartouchelaw11.RingEither", spec := "ringEither", unfollowed := true, recurses := true, apart := false, narrowed := true }
def RingEitherUptoSaid : Prop := ringEitherUptoRow.holds Try.pinned (OpenSpec.upto ringEitherSpec)

/-- 'cartouchelaw08.HistoryForms', WHERE WHAT IT READS IS OF BULK AT MOST 1048576: true; the input reads as it did. -/
def historyFormsUptoRow : OpenClaim := { program := "ythjgmccpbcelgaa", sum := "7bd43e0de4cef0b97339ffa414295f02869c6aa926228fac2e2fc048940a74a6", func := "cartouche/cartouchelaw08.HistoryForms", spec := "historyForms", unfollowed := true, recurses := true, apart := false, narrowed := true }
def HistoryFormsUptoSaid : Prop := historyFormsUptoRow.holds Try.pinned (OpenSpec.upto historyFormsSpec)

/-- 'cartouchelaw08.HistoryWrites', WHERE WHAT IT READS IS OF BULK AT MOST 1048576: true; the input reads as it did. -/
def historyWritesUptoRow : OpenClaim := { program := "ythjgmccpbcelgaa", sum := "7bd43e0de4cef0b97339ffa414295f02869c6aa926228fac2e2fc048940a74a6", func := "cartouche/cartouchelaw08.HistoryWrites", spec := "historyWrites", unfollowed := true, recurses := true, apart := false, narrowed := true }
def HistoryWritesUptoSaid : Prop := historyWritesUptoRow.holds Try.pinned (OpenSpec.upto historyWritesSpec)

/-- 'cartouchelaw08.HistoryPrefix', WHERE WHAT IT READS IS OF BULK AT MOST 1048576: true; the input reads as it did. -/
def historyPrefixUptoRow : OpenClaim := { program := "ythjgmccpbcelgaa", sum := "7bd43e0de4cef0b97339ffa414295f02869c6aa926228fac2e2fc048940a74a6", func := "cartouche/cartouchelaw08.HistoryPrefix", spec := "historyPrefix", unfollowed := true, recurses := true, apart := false, narrowed := true }
def HistoryPrefixUptoSaid : Prop := historyPrefixUptoRow.holds Try.pinned (OpenSpec.upto historyPrefixSpec)

/-- 'cartouchelaw08.HistoryLast', WHERE WHAT IT READS IS OF BULK AT MOST 1048576: true; the input reads as it did. -/
def historyLastUptoRow : OpenClaim := { program := "ythjgmccpbcelgaa", sum := "7bd43e0de4cef0b97339ffa414295f02869c6aa926228fac2e2fc048940a74a6", func := "cartouche/cartouchelaw08.HistoryLast", spec := "historyLast", unfollowed := true, recurses := true, apart := false, narrowed := true }
def HistoryLastUptoSaid : Prop := historyLastUptoRow.holds Try.pinned (OpenSpec.upto historyLastSpec)

/-- 'cartouchelaw08.HistoryOnce', WHERE WHAT IT READS IS OF BULK AT MOST 1048576: true; the input reads as it did. -/
def historyOnceUptoRow : OpenClaim := { program := "ythjgmccpbcelgaa", sum := "7bd43e0de4cef0b97339ffa414295f02869c6aa926228fac2e2fc048940a74a6", func := "cartouche/cartouchelaw08.HistoryOnce", spec := "historyOnce", unfollowed := true, recurses := true, apart := false, narrowed := true }
def HistoryOnceUptoSaid : Prop := historyOnceUptoRow.holds Try.pinned (OpenSpec.upto historyOnceSpec)

/-- 'cartouchelaw08.HistoryVersions', WHERE WHAT IT READS IS OF BULK AT MOST 1048576: true; the input reads as it did. -/
def historyVersionsUptoRow : OpenClaim := { program := "ythjgmccpbcelgaa", sum := "7bd43e0de4cef0b97339ffa414295f02869c6aa926228fac2e2fc048940a74a6", func := "cartouche/cartouchelaw08.HistoryVersions", spec := "historyVersions", unfollowed := true, recurses := true, apart := false, narrowed := true }
def HistoryVersionsUptoSaid : Prop := historyVersionsUptoRow.holds Try.pinned (OpenSpec.upto historyVersionsSpec)

/-- 'cartouchelaw08.HistoryGrows', WHERE WHAT IT READS IS OF BULK AT MOST 1048576: true; the input reads as it did. -/
def historyGrowsUptoRow : OpenClaim := { program := "ythjgmccpbcelgaa", sum := "7bd43e0de4cef0b97339ffa414295f02869c6aa926228fac2e2fc048940a74a6", func := "cartouche/cartouchelaw08.HistoryGrows", spec := "historyGrows", unfollowed := true, recurses := true, apart := false, narrowed := true }
def HistoryGrowsUptoSaid : Prop := historyGrowsUptoRow.holds Try.pinned (OpenSpec.upto historyGrowsSpec)

/-- 'cartouchelaw10.EdgesApart', WHERE WHAT IT READS IS OF BULK AT MOST 1048576: true; the input reads as it did. -/
def edgesApartUptoRow : OpenClaim := { program := "ythjgmccpbcelgaa", sum := "7bd43e0de4cef0b97339ffa414295f02869c6aa926228fac2e2fc048940a74a6", func := "cartouche/cartouchelaw10.EdgesApart", spec := "edgesApart", unfollowed := true, recurses := true, apart := false, narrowed := true }
def EdgesApartUptoSaid : Prop := edgesApartUptoRow.holds Try.pinned (OpenSpec.upto edgesApartSpec)

/-- 'cartouchelaw10.EdgesReads', WHERE WHAT IT READS IS OF BULK AT MOST 1048576: true; the input reads as it did. -/
def edgesReadsUptoRow : OpenClaim := { program := "ythjgmccpbcelgaa", sum := "7bd43e0de4cef0b97339ffa414295f02869c6aa926228fac2e2fc048940a74a6", func := "cartouche/cartouchelaw10.EdgesReads", spec := "edgesReads", unfollowed := true, recurses := true, apart := false, narrowed := true }
def EdgesReadsUptoSaid : Prop := edgesReadsUptoRow.holds Try.pinned (OpenSpec.upto edgesReadsSpec)

/-- 'cartouchelaw08.HistoryLives', WHERE WHAT IT READS IS OF BULK AT MOST 1048576: true; the input reads as it did. -/
def historyLivesUptoRow : OpenClaim := { program := "ythjgmccpbcelgaa", sum := "7bd43e0de4cef0b97339ffa414295f02869c6aa926228fac2e2fc048940a74a6", func := "cartouche/cartouchelaw08.HistoryLives", spec := "historyLives", unfollowed := true, recurses := true, apart := false, narrowed := true }
def HistoryLivesUptoSaid : Prop := historyLivesUptoRow.holds Try.pinned (OpenSpec.upto historyLivesSpec)

/-- 'cartouchelaw10.EdgesStep', WHERE WHAT IT READS IS OF BULK AT MOST 1048576: true; the input reads as it did. -/
def edgesStepUptoRow : OpenClaim := { program := "ythjgmccpbcelgaa", sum := "7bd43e0de4cef0b97339ffa414295f02869c6aa926228fac2e2fc048940a74a6", func := "cartouche/cartouchelaw10.EdgesStep", spec := "edgesStep", unfollowed := true, recurses := true, apart := false, narrowed := true }
def EdgesStepUptoSaid : Prop := edgesStepUptoRow.holds Try.pinned (OpenSpec.upto edgesStepSpec)

/-- 'cartouchelaw10.EdgesSteps', WHERE WHAT IT READS IS OF BULK AT MOST 1048576: true; the input reads as it did. -/
def edgesStepsUptoRow : OpenClaim := { program := "ythjgmccpbcelgaa", sum := "7bd43e0de4cef0b97339ffa414295f02869c6aa926228fac2e2fc048940a74a6", func := "cartouche/cartouchelaw10.EdgesSteps", spec := "edgesSteps", unfollowed := true, recurses := true, apart := false, narrowed := true }
def EdgesStepsUptoSaid : Prop := edgesStepsUptoRow.holds Try.pinned (OpenSpec.upto edgesStepsSpec)

/-- 'cartouchelaw10.EdgesHold', WHERE WHAT IT READS IS OF BULK AT MOST 1048576: true; the input reads as it did. -/
def edgesHoldUptoRow : OpenClaim := { program := "ythjgmccpbcelgaa", sum := "7bd43e0de4cef0b97339ffa414295f02869c6aa926228fac2e2fc048940a74a6", func := "cartouche/cartouchelaw10.EdgesHold", spec := "edgesHold", unfollowed := true, recurses := true, apart := false, narrowed := true }
def EdgesHoldUptoSaid : Prop := edgesHoldUptoRow.holds Try.pinned (OpenSpec.upto edgesHoldSpec)

/-- 'cartouchelaw10.EdgesFollow', WHERE WHAT IT READS IS OF BULK AT MOST 1048576: true; the input reads as it did. -/
def edgesFollowUptoRow : OpenClaim := { program := "ythjgmccpbcelgaa", sum := "7bd43e0de4cef0b97339ffa414295f02869c6aa926228fac2e2fc048940a74a6", func := "cartouche/cartouchelaw10.EdgesFollow", spec := "edgesFollow", unfollowed := true, recurses := true, apart := false, narrowed := true }
def EdgesFollowUptoSaid : Prop := edgesFollowUptoRow.holds Try.pinned (OpenSpec.upto edgesFollowSpec)

end Rows
end Go.Proofs.Ythjgmccpbcelgaa
