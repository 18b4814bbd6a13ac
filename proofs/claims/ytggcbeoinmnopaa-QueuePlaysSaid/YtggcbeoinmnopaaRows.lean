/-
  No cell of these rows narrows 'for every input' (looked for: loops, veiled, ifaces, maps, wideKeys, modest, calm, conditions, laid).
  DERIVED. THE GIVEN ROWS OF THIS SEAT. 7 by the template 'for every input the law returns true; each argument reads behind the call as it read before'; 0 by the template 'total and deterministic' (their statements: YtggcbeoinmnopaaTotals.lean).
  GIVEN WITH THE SEED: the statements are not yours to turn. If you find one false, say at which input.
  Laid BY PROGRAM, IN A SANDBOX (cutbox-rows.mjs): the forced cells as the released guide's own fill.sh prints them over the translation 1487e2d723569be6… (all of the seat's roots in one cut). By AI agents, Wed Nov 11 2026. No macro, syntax, notation, axiom, sorry.
-/
import Derived.Test.YtggcbeoinmnopaaChecked
import GoSem.Claim
import GoSem.ClaimJoined
import GoSem.ClaimMapViews
import Derived.JoinedTies
import Derived.KernelRfl
namespace Go.Proofs.Ytggcbeoinmnopaa
/- THE CELL 'sum', in the pinned program and in every row, IS THE sha256 OF THE DUMP (.gsa) THAT YtggcbeoinmnopaaProg.lean LOADS. Nothing in Lean hashes anything: it is a label: what it is worth is what the hold of that sum in a sandbox is worth. -/
noncomputable def Try.pinned : Pinned := { name := "ytggcbeoinmnopaa", sum := "1487e2d723569be653d639a5832860fb17a2d6ade5c2d1c2cddf0a768daf59e3", checked := Try.checked }
namespace Rows
def none {H : Type} : Left H := { results := [], args := [] }

/-- 'diapauselaw07.QueueFair': WHATEVER THE INPUT: true; the input reads as it did. -/
def queueFairSpec : ChangeSpec := { name := "queueFair", fn := fun _ => fun
  | [d1, d2] => { results := [.lit (.bool true)], args := [d1, d2] }
  | _ => none }
def queueFairRow : OpenClaim := { program := "ytggcbeoinmnopaa", sum := "1487e2d723569be653d639a5832860fb17a2d6ade5c2d1c2cddf0a768daf59e3", func := "diapause/diapauselaw07.QueueFair", spec := "queueFair", unfollowed := true, recurses := true, apart := false }
def QueueFairSaid : Prop := queueFairRow.holds Try.pinned (OpenSpec.ofChange queueFairSpec)

/-- ITS FALSE NEIGHBOUR: 'it returns false'. Refute it at one input. -/
def queueFairWrong : ChangeSpec := { name := "queueFair", fn := fun _ => fun
  | [d1, d2] => { results := [.lit (.bool false)], args := [d1, d2] }
  | _ => none }
def QueueFairWrongFalsely : Prop := queueFairRow.holds Try.pinned (OpenSpec.ofChange queueFairWrong)

/-- 'diapauselaw07.QueueLags': WHATEVER THE INPUT: true; the input reads as it did. -/
def queueLagsSpec : ChangeSpec := { name := "queueLags", fn := fun _ => fun
  | [d1, d2] => { results := [.lit (.bool true)], args := [d1, d2] }
  | _ => none }
def queueLagsRow : OpenClaim := { program := "ytggcbeoinmnopaa", sum := "1487e2d723569be653d639a5832860fb17a2d6ade5c2d1c2cddf0a768daf59e3", func := "diapause/diapauselaw07.QueueLags", spec := "queueLags", unfollowed := true, recurses := true, apart := false }
def QueueLagsSaid : Prop := queueLagsRow.holds Try.pinned (OpenSpec.ofChange queueLagsSpec)

/-- ITS FALSE NEIGHBOUR: 'it returns false'. Refute it at one input. -/
def queueLagsWrong : ChangeSpec := { name := "queueLags", fn := fun _ => fun
  | [d1, d2] => { results := [.lit (.bool false)], args := [d1, d2] }
  | _ => none }
def QueueLagsWrongFalsely : Prop := queueLagsRow.holds Try.pinned (OpenSpec.ofChange queueLagsWrong)

/-- 'diapauselaw07.QueueMoves': WHATEVER THE INPUT: true; the input reads as it did. -/
def queueMovesSpec : ChangeSpec := { name := "queueMoves", fn := fun _ => fun
  | [d1, d2, d3] => { results := [.lit (.bool true)], args := [d1, d2, d3] }
  | _ => none }
def queueMovesRow : OpenClaim := { program := "ytggcbeoinmnopaa", sum := "1487e2d723569be653d639a5832860fb17a2d6ade5c2d1c2cddf0a768daf59e3", func := "diapause/diapauselaw07.QueueMoves", spec := "queueMoves", unfollowed := true, recurses := true, apart := false }
def QueueMovesSaid : Prop := queueMovesRow.holds Try.pinned (OpenSpec.ofChange queueMovesSpec)

/-- ITS FALSE NEIGHBOUR: 'it returns false'. Refute it at one input. -/
def queueMovesWrong : ChangeSpec := { name := "queueMoves", fn := fun _ => fun
  | [d1, d2, d3] => { results := [.lit (.bool false)], args := [d1, d2, d3] }
  | _ => none }
def QueueMovesWrongFalsely : Prop := queueMovesRow.holds Try.pinned (OpenSpec.ofChange queueMovesWrong)

/-- 'diapauselaw07.QueueHalves': WHATEVER THE INPUT: true; the input reads as it did. -/
def queueHalvesSpec : ChangeSpec := { name := "queueHalves", fn := fun _ => fun
  | [d1, d2, d3, d4, d5] => { results := [.lit (.bool true)], args := [d1, d2, d3, d4, d5] }
  | _ => none }
def queueHalvesRow : OpenClaim := { program := "ytggcbeoinmnopaa", sum := "1487e2d723569be653d639a5832860fb17a2d6ade5c2d1c2cddf0a768daf59e3", func := "diapause/diapauselaw07.QueueHalves", spec := "queueHalves", unfollowed := true, recurses := true, apart := false }
def QueueHalvesSaid : Prop := queueHalvesRow.holds Try.pinned (OpenSpec.ofChange queueHalvesSpec)

/-- ITS FALSE NEIGHBOUR: 'it returns false'. Refute it at one input. -/
def queueHalvesWrong : ChangeSpec := { name := "queueHalves", fn := fun _ => fun
  | [d1, d2, d3, d4, d5] => { results := [.lit (.bool false)], args := [d1, d2, d3, d4, d5] }
  | _ => none }
def QueueHalvesWrongFalsely : Prop := queueHalvesRow.holds Try.pinned (OpenSpec.ofChange queueHalvesWrong)

/-- 'diapauselaw07.QueueJoins': WHATEVER THE INPUT: true; the input reads as it did. -/
def queueJoinsSpec : ChangeSpec := { name := "queueJoins", fn := fun _ => fun
  | [d1, d2, d3] => { results := [.lit (.bool true)], args := [d1, d2, d3] }
  | _ => none }
def queueJoinsRow : OpenClaim := { program := "ytggcbeoinmnopaa", sum := "1487e2d723569be653d639a5832860fb17a2d6ade5c2d1c2cddf0a768daf59e3", func := "diapause/diapauselaw07.QueueJoins", spec := "queueJoins", unfollowed := true, recurses := true, apart := false }
def QueueJoinsSaid : Prop := queueJoinsRow.holds Try.pinned (OpenSpec.ofChange queueJoinsSpec)

/-- ITS FALSE NEIGHBOUR: 'it returns false'. Refute it at one input. -/
def queueJoinsWrong : ChangeSpec := { name := "queueJoins", fn := fun _ => fun
  | [d1, d2, d3] => { results := [.lit (.bool false)], args := [d1, d2, d3] }
  | _ => none }
def QueueJoinsWrongFalsely : Prop := queueJoinsRow.holds Try.pinned (OpenSpec.ofChange queueJoinsWrong)

/-- 'diapauselaw07.QueuePlays': WHATEVER THE INPUT: true; the input reads as it did. -/
def queuePlaysSpec : ChangeSpec := { name := "queuePlays", fn := fun _ => fun
  | [d1, d2] => { results := [.lit (.bool true)], args := [d1, d2] }
  | _ => none }
def queuePlaysRow : OpenClaim := { program := "ytggcbeoinmnopaa", sum := "1487e2d723569be653d639a5832860fb17a2d6ade5c2d1c2cddf0a768daf59e3", func := "diapause/diapauselaw07.QueuePlays", spec := "queuePlays", inPlace := ["math.archFloor", "math.Float64bits", "math.Float64frombits", "math.archTrunc"], unfollowed := true, recurses := true, apart := false }
def QueuePlaysSaid : Prop := queuePlaysRow.holds Try.pinned (OpenSpec.ofChange queuePlaysSpec)

/-- ITS FALSE NEIGHBOUR: 'it returns false'. Refute it at one input. -/
def queuePlaysWrong : ChangeSpec := { name := "queuePlays", fn := fun _ => fun
  | [d1, d2] => { results := [.lit (.bool false)], args := [d1, d2] }
  | _ => none }
def QueuePlaysWrongFalsely : Prop := queuePlaysRow.holds Try.pinned (OpenSpec.ofChange queuePlaysWrong)

/-- 'diapauselaw07.QueueMean': WHATEVER THE INPUT: true; the input reads as it did. -/
def queueMeanSpec : ChangeSpec := { name := "queueMean", fn := fun _ => fun
  | [d] => { results := [.lit (.bool true)], args := [d] }
  | _ => none }
def queueMeanRow : OpenClaim := { program := "ytggcbeoinmnopaa", sum := "1487e2d723569be653d639a5832860fb17a2d6ade5c2d1c2cddf0a768daf59e3", func := "diapause/diapauselaw07.QueueMean", spec := "queueMean", inPlace := ["math.archFloor", "math.Float64bits", "math.Float64frombits", "math.archTrunc"], unfollowed := true, recurses := true, apart := false }
def QueueMeanSaid : Prop := queueMeanRow.holds Try.pinned (OpenSpec.ofChange queueMeanSpec)

/-- ITS FALSE NEIGHBOUR: 'it returns false'. Refute it at one input. -/
def queueMeanWrong : ChangeSpec := { name := "queueMean", fn := fun _ => fun
  | [d] => { results := [.lit (.bool false)], args := [d] }
  | _ => none }
def QueueMeanWrongFalsely : Prop := queueMeanRow.holds Try.pinned (OpenSpec.ofChange queueMeanWrong)

/- THE SECOND FORM. 'bulk': how many values and letters a reading holds, each counted each time it is reached (what is shared counts as often as it is met; a slice's spare places count too). A statement '..UptoSaid' is the law's where the arguments, and the package variables that the reading takes, are together of bulk at most 1048576: NARROWER than '..Said'. Prove '..Said' where nothing that the law and all that it calls make is longer than what came in: it says more and counts as full. Else prove '..UptoSaid'. A law counts once. -/
mutual
def uptoBulk {H : Type} : DataW H → Nat
  | .lit (.string bytes) => bytes.length + 1
  | .lit _ => 1
  | .nil => 1
  | .ptr d => uptoBulk d + 1
  | .slice elems spare => uptoBulkAll elems + uptoBulkAll spare + 1
  | .agg parts => uptoBulkAll parts + 1
  | .iface _ d => uptoBulk d + 1
  | .map entries => uptoBulkEntries entries + 1
  | .held _ => 1
def uptoBulkAll {H : Type} : List (DataW H) → Nat
  | [] => 0
  | d :: r => uptoBulk d + uptoBulkAll r
def uptoBulkEntries {H : Type} : List (Lit × DataW H) → Nat
  | [] => 0
  | x :: r => uptoBulkEntry x + uptoBulkEntries r
def uptoBulkEntry {H : Type} : Lit × DataW H → Nat
  | (.string bytes, d) => bytes.length + uptoBulk d + 1
  | (_, d) => uptoBulk d + 1
 end
def uptoSmall : (H : Type) → List (DataW H) → Bool := fun _ ds => decide (uptoBulkAll ds ≤ 1048576)
def OpenSpec.upto (s : _root_.Go.ChangeSpec) : _root_.Go.OpenSpec := { _root_.Go.OpenSpec.ofChange s with cond := some uptoSmall }

/-- 'diapauselaw07.QueueFair', WHERE WHAT IT READS IS OF BULK AT MOST 1048576: true; the input reads as it did. -/
def queueFairUptoRow : OpenClaim := { program := "ytggcbeoinmnopaa", sum := "1487e2d723569be653d639a5832860fb17a2d6ade5c2d1c2cddf0a768daf59e3", func := "diapause/diapauselaw07.QueueFair", spec := "queueFair", unfollowed := true, recurses := true, apart := false, narrowed := true }
def QueueFairUptoSaid : Prop := queueFairUptoRow.holds Try.pinned (OpenSpec.upto queueFairSpec)

/-- 'diapauselaw07.QueueLags', WHERE WHAT IT READS IS OF BULK AT MOST 1048576: true; the input reads as it did. -/
def queueLagsUptoRow : OpenClaim := { program := "ytggcbeoinmnopaa", sum := "1487e2d723569be653d639a5832860fb17a2d6ade5c2d1c2cddf0a768daf59e3", func := "diapause/diapauselaw07.QueueLags", spec := "queueLags", unfollowed := true, recurses := true, apart := false, narrowed := true }
def QueueLagsUptoSaid : Prop := queueLagsUptoRow.holds Try.pinned (OpenSpec.upto queueLagsSpec)

/-- 'diapauselaw07.QueueMoves', WHERE WHAT IT READS IS OF BULK AT MOST 1048576: true; the input reads as it did. -/
def queueMovesUptoRow : OpenClaim := { program := "ytggcbeoinmnopaa", sum := "1487e2d723569be653d639a5832860fb17a2d6ade5c2d1c2cddf0a768daf59e3", func := "diapause/diapauselaw07.QueueMoves", spec := "queueMoves", unfollowed := true, recurses := true, apart := false, narrowed := true }
def QueueMovesUptoSaid : Prop := queueMovesUptoRow.holds Try.pinned (OpenSpec.upto queueMovesSpec)

/-- 'diapauselaw07.QueueHalves', WHERE WHAT IT READS IS OF BULK AT MOST 1048576: true; the input reads as it did. -/
def queueHalvesUptoRow : OpenClaim := { program := "ytggcbeoinmnopaa", sum := "1487e2d723569be653d639a5832860fb17a2d6ade5c2d1c2cddf0a768daf59e3", func := "diapause/diapauselaw07.QueueHalves", spec := "queueHalves", unfollowed := true, recurses := true, apart := false, narrowed := true }
def QueueHalvesUptoSaid : Prop := queueHalvesUptoRow.holds Try.pinned (OpenSpec.upto queueHalvesSpec)

/-- 'diapauselaw07.QueueJoins', WHERE WHAT IT READS IS OF BULK AT MOST 1048576: true; the input reads as it did. -/
def queueJoinsUptoRow : OpenClaim := { program := "ytggcbeoinmnopaa", sum := "1487e2d723569be653d639a5832860fb17a2d6ade5c2d1c2cddf0a768daf59e3", func := "diapause/diapauselaw07.QueueJoins", spec := "queueJoins", unfollowed := true, recurses := true, apart := false, narrowed := true }
def QueueJoinsUptoSaid : Prop := queueJoinsUptoRow.holds Try.pinned (OpenSpec.upto queueJoinsSpec)

/-- 'diapauselaw07.QueuePlays', WHERE WHAT IT READS IS OF BULK AT MOST 1048576: true; the input reads as it did. -/
def queuePlaysUptoRow : OpenClaim := { program := "ytggcbeoinmnopaa", sum := "1487e2d723569be653d639a5832860fb17a2d6ade5c2d1c2cddf0a768daf59e3", func := "diapause/diapauselaw07.QueuePlays", spec := "queuePlays", inPlace := ["math.archFloor", "math.Float64bits", "math.Float64frombits", "math.archTrunc"], unfollowed := true, recurses := true, apart := false, narrowed := true }
def QueuePlaysUptoSaid : Prop := queuePlaysUptoRow.holds Try.pinned (OpenSpec.upto queuePlaysSpec)

/-- 'diapauselaw07.QueueMean', WHERE WHAT IT READS IS OF BULK AT MOST 1048576: true; the input reads as it did. -/
def queueMeanUptoRow : OpenClaim := { program := "ytggcbeoinmnopaa", sum := "1487e2d723569be653d639a5832860fb17a2d6ade5c2d1c2cddf0a768daf59e3", func := "diapause/diapauselaw07.QueueMean", spec := "queueMean", inPlace := ["math.archFloor", "math.Float64bits", "math.Float64frombits", "math.archTrunc"], unfollowed := true, recurses := true, apart := false, narrowed := true }
def QueueMeanUptoSaid : Prop := queueMeanUptoRow.holds Try.pinned (OpenSpec.upto queueMeanSpec)

end Rows
end Go.Proofs.Ytggcbeoinmnopaa
