/-
  No cell of these rows narrows 'for every input' (looked for: loops, veiled, ifaces, maps, wideKeys, modest, calm, conditions, laid).
  DERIVED. THE GIVEN ROWS OF THIS SEAT. 3 by the template 'for every input the law returns true; each argument reads behind the call as it read before'; 0 by the template 'total and deterministic' (their statements: YtebjiimlcnmfpaaTotals.lean).
  GIVEN WITH THE SEED: the statements are not yours to turn. If you find one false, say at which input.
  Laid BY PROGRAM, IN A SANDBOX (cutbox-rows.mjs): the forced cells as the released guide's own fill.sh prints them over the translation 4475eaa0425c7bdb… (all of the seat's roots in one cut). By AI agents, Wed Nov 11 2026. No macro, syntax, notation, axiom, sorry.
-/
import Derived.Test.YtebjiimlcnmfpaaChecked
import GoSem.Claim
import GoSem.ClaimJoined
import GoSem.ClaimMapViews
import Derived.JoinedTies
import Derived.KernelRfl
namespace Go.Proofs.Ytebjiimlcnmfpaa
/- THE CELL 'sum', in the pinned program and in every row, IS THE sha256 OF THE DUMP (.gsa) THAT YtebjiimlcnmfpaaProg.lean LOADS. Nothing in Lean hashes anything: it is a label: what it is worth is what the hold of that sum in a sandbox is worth. -/
noncomputable def Try.pinned : Pinned := { name := "ytebjiimlcnmfpaa", sum := "4475eaa0425c7bdb6c8d8469e33de9fcb11e610027bca87ae6577d495fa6e6e0", checked := Try.checked }
namespace Rows
def none {H : Type} : Left H := { results := [], args := [] }

/-- 'cartouchelaw11.RingTurns': WHATEVER THE INPUT: true; the input reads as it did. -/
def ringTurnsSpec : ChangeSpec := { name := "ringTurns", fn := fun _ => fun
  | [d1, d2] => { results := [.lit (.bool true)], args := [d1, d2] }
  | _ => none }
def ringTurnsRow : OpenClaim := { program := "ytebjiimlcnmfpaa", sum := "4475eaa0425c7bdb6c8d8469e33de9fcb11e610027bca87ae6577d495fa6e6e0", func := "cartouche/cartouchelaw11.RingTurns", spec := "ringTurns", unfollowed := true, recurses := true, apart := false }
def RingTurnsSaid : Prop := ringTurnsRow.holds Try.pinned (OpenSpec.ofChange ringTurnsSpec)

/-- ITS FALSE NEIGHBOUR: 'it returns false'. Refute it at one input. -/
def ringTurnsWrong : ChangeSpec := { name := "ringTurns", fn := fun _ => fun
  | [d1, d2] => { results := [.lit (.bool false)], args := [d1, d2] }
  | _ => none }
def RingTurnsWrongFalsely : Prop := ringTurnsRow.holds Try.pinned (OpenSpec.ofChange ringTurnsWrong)

/-- 'cartouchelaw10.EdgesHold': WHATEVER THE INPUT: true; the input reads as it did. -/
def edgesHoldSpec : ChangeSpec := { name := "edgesHold", fn := fun _ => fun
  | [d] => { results := [.lit (.bool true)], args := [d] }
  | _ => none }
def edgesHoldRow : OpenClaim := { program := "ytebjiimlcnmfpaa", sum := "4475eaa0425c7bdb6c8d8469e33de9fcb11e610027bca87ae6577d495fa6e6e0", func := "cartouche/cartouchelaw10.EdgesHold", spec := "edgesHold", unfollowed := true, recurses := true, apart := false }
def EdgesHoldSaid : Prop := edgesHoldRow.holds Try.pinned (OpenSpec.ofChange edgesHoldSpec)

/-- ITS FALSE NEIGHBOUR: 'it returns false'. Refute it at one input. -/
def edgesHoldWrong : ChangeSpec := { name := "edgesHold", fn := fun _ => fun
  | [d] => { results := [.lit (.bool false)], args := [d] }
  | _ => none }
def EdgesHoldWrongFalsely : Prop := edgesHoldRow.holds Try.pinned (OpenSpec.ofChange edgesHoldWrong)

/-- 'cartouchelaw10.EdgesFollow': WHATEVER THE INPUT: true; the input reads as it did. -/
def edgesFollowSpec : ChangeSpec := { name := "edgesFollow", fn := fun _ => fun
  | [d1, d2] => { results := [.lit (.bool true)], args := [d1, d2] }
  | _ => none }
def edgesFollowRow : OpenClaim := { program := "ytebjiimlcnmfpaa", sum := "4475eaa0425c7bdb6c8d8469e33de9fcb11e610027bca87ae6577d495fa6e6e0", func := "cartouche/cartouchelaw10.EdgesFollow", spec := "edgesFollow", unfollowed := true, recurses := true, apart := false }
def EdgesFollowSaid : Prop := edgesFollowRow.holds Try.pinned (OpenSpec.ofChange edgesFollowSpec)

/-- ITS FALSE NEIGHBOUR: 'it returns false'. Refute it at one input. -/
def edgesFollowWrong : ChangeSpec := { name := "edgesFollow", fn := fun _ => fun
  | [d1, d2] => { results := [.lit (.bool false)], args := [d1, d2] }
  | _ => none }
def EdgesFollowWrongFalsely : Prop := edgesFollowRow.holds Try.pinned (OpenSpec.ofChange edgesFollowWrong)

/- THE SECOND FORM. 'bulk': how many values and letters a reading holds, each counted each time it is reached (what is shared counts as often as it is met; a slice's spare places count too). A statement '..UptoSaid' is the law's where the arguments, and the package variables that the reading takes, are together of bulk at most 1048576: NARROWER than '..Said'. Prove '..Said' where nothing that the law and all that it calls make is longer than what came in: it says more and counts as full. Else prove '..UptoSaid'. A law counts once. -/
mutual
def uptoBulk {H : Type} : DataW H → Nat
  | .lit (.string bytes) => bytes.length + 1
  | .lit _ => 1
  | .nil => 1
  | .ptr d => uptoBulk d + 1
  | .slice elems spare => uptoBulkAll elems + uptoBulkAll spare + 1
  | .agg parts => uptoBulkAll parts + 1
  | .iface _ d => uptoBulk d + 1
  | .map entries => uptoBulkEntries entries + 1
  | .held _ => 1
def uptoBulkAll {H : Type} : List (DataW H) → Nat
  | [] => 0
  | d :: r => uptoBulk d + uptoBulkAll r
def uptoBulkEntries {H : Type} : List (Lit × DataW H) → Nat
  | [] => 0
  | x :: r => uptoBulkEntry x + uptoBulkEntries r
def uptoBulkEntry {H : Type} : Lit × DataW H → Nat
  | (.string bytes, d) => bytes.length + uptoBulk d + 1
  | (_, d) => uptoBulk d + 1
 end
def uptoSmall : (H : Type) → List (DataW H) → Bool := fun _ ds => decide (uptoBulkAll ds ≤ 1048576)
def OpenSpec.upto (s : _root_.Go.ChangeSpec) : _root_.Go.OpenSpec := { _root_.Go.OpenSpec.ofChange s with cond := some uptoSmall }

/-- 'cartouchelaw11.RingTurns', WHERE WHAT IT READS IS OF BULK AT MOST 1048576: true; the input reads as it did. -/
def ringTurnsUptoRow : OpenClaim := { program := "ytebjiimlcnmfpaa", sum := "4475eaa0425c7bdb6c8d8469e33de9fcb11e610027bca87ae6577d495fa6e6e0", func := "cartouche/cartouchelaw11.RingTurns", spec := "ringTurns", unfollowed := true, recurses := true, apart := false, narrowed := true }
def RingTurnsUptoSaid : Prop := ringTurnsUptoRow.holds Try.pinned (OpenSpec.upto ringTurnsSpec)

/-- 'cartouchelaw10.EdgesHold', WHERE WHAT IT READS IS OF BULK AT MOST 1048576: true; the input reads as it did. -/
def edgesHoldUptoRow : OpenClaim := { program := "ytebjiimlcnmfpaa", sum := "4475eaa0425c7bdb6c8d8469e33de9fcb11e610027bca87ae6577d495fa6e6e0", func := "cartouche/cartouchelaw10.EdgesHold", spec := "edgesHold", unfollowed := true, recurses := true, apart := false, narrowed := true }
def EdgesHoldUptoSaid : Prop := edgesHoldUptoRow.holds Try.pinned (OpenSpec.upto edgesHoldSpec)

/-- 'cartouchelaw10.EdgesFollow', WHERE WHAT IT READS IS OF BULK AT MOST 1048576: true; the input reads as it did. -/
def edgesFollowUptoRow : OpenClaim := { program := "ytebjiimlcnmfpaa", sum := "4475eaa0425c7bdb6c8d8469e33de9fcb11e610027bca87ae6577d495fa6e6e0", func := "cartouche/cartouchelaw10.EdgesFollow", spec := "edgesFollow", unfollowed := true, recurses := true, apart := false, narrowed := true }
def EdgesFollowUptoSaid : Prop := edgesFollowUptoRow.holds Try.pinned (OpenSpec.upto edgesFollowSpec)

end Rows
end Go.Proofs.Ytebjiimlcnmfpaa
