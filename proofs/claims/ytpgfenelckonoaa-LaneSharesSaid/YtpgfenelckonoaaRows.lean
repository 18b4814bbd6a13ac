/-
  No cell of these rows narrows 'for every input' (looked for: loops, veiled, ifaces, maps, wideKeys, modest, calm, conditions, laid).
  DERIVED. THE GIVEN ROWS OF THIS SEAT. 5 by the template 'for every input the law returns true; each argument reads behind the call as it read before'; 0 by the template 'total and deterministic' (their statements: YtpgfenelckonoaaTotals.lean).
  GIVEN WITH THE SEED: the statements are not yours to turn. If you find one false, say at which input.
  Laid BY PROGRAM, IN A SANDBOX (cutbox-rows.mjs): the forced cells as the released guide's own fill.sh prints them over the translation 5ac577a0bec11b69… (all of the seat's roots in one cut). By AI agents, Wed Nov 11 2026. No macro, syntax, notation, axiom, sorry.
-/
import Derived.Test.YtpgfenelckonoaaChecked
import GoSem.Claim
import GoSem.ClaimJoined
import GoSem.ClaimMapViews
import Derived.JoinedTies
import Derived.KernelRfl
namespace Go.Proofs.Ytpgfenelckonoaa
/- THE CELL 'sum', in the pinned program and in every row, IS THE sha256 OF THE DUMP (.gsa) THAT YtpgfenelckonoaaProg.lean LOADS. Nothing in Lean hashes anything: it is a label: what it is worth is what the hold of that sum in a sandbox is worth. -/
noncomputable def Try.pinned : Pinned := { name := "ytpgfenelckonoaa", sum := "5ac577a0bec11b695646692aa85af6a36e1eddd95425a8e24af00fbc6db6f312", checked := Try.checked }
namespace Rows
def none {H : Type} : Left H := { results := [], args := [] }

/-- 'diapauselaw16.LaneShares': WHATEVER THE INPUT: true; the input reads as it did. -/
def laneSharesSpec : ChangeSpec := { name := "laneShares", fn := fun _ => fun
  | [d1, d2, d3] => { results := [.lit (.bool true)], args := [d1, d2, d3] }
  | _ => none }
def laneSharesRow : OpenClaim := { program := "ytpgfenelckonoaa", sum := "5ac577a0bec11b695646692aa85af6a36e1eddd95425a8e24af00fbc6db6f312", func := "diapause/diapauselaw16.LaneShares", spec := "laneShares", inPlace := ["slices.overlaps[int]"], unfollowed := true, recurses := true, apart := false }
def LaneSharesSaid : Prop := laneSharesRow.holds Try.pinned (OpenSpec.ofChange laneSharesSpec)

/-- ITS FALSE NEIGHBOUR: 'it returns false'. Refute it at one input. -/
def laneSharesWrong : ChangeSpec := { name := "laneShares", fn := fun _ => fun
  | [d1, d2, d3] => { results := [.lit (.bool false)], args := [d1, d2, d3] }
  | _ => none }
def LaneSharesWrongFalsely : Prop := laneSharesRow.holds Try.pinned (OpenSpec.ofChange laneSharesWrong)

/-- 'diapauselaw16.LanePicks': WHATEVER THE INPUT: true; the input reads as it did. -/
def lanePicksSpec : ChangeSpec := { name := "lanePicks", fn := fun _ => fun
  | [d1, d2] => { results := [.lit (.bool true)], args := [d1, d2] }
  | _ => none }
def lanePicksRow : OpenClaim := { program := "ytpgfenelckonoaa", sum := "5ac577a0bec11b695646692aa85af6a36e1eddd95425a8e24af00fbc6db6f312", func := "diapause/diapauselaw16.LanePicks", spec := "lanePicks", inPlace := ["slices.overlaps[int]"], unfollowed := true, recurses := true, apart := false }
def LanePicksSaid : Prop := lanePicksRow.holds Try.pinned (OpenSpec.ofChange lanePicksSpec)

/-- ITS FALSE NEIGHBOUR: 'it returns false'. Refute it at one input. -/
def lanePicksWrong : ChangeSpec := { name := "lanePicks", fn := fun _ => fun
  | [d1, d2] => { results := [.lit (.bool false)], args := [d1, d2] }
  | _ => none }
def LanePicksWrongFalsely : Prop := lanePicksRow.holds Try.pinned (OpenSpec.ofChange lanePicksWrong)

/-- 'diapauselaw16.LaneLags': WHATEVER THE INPUT: true; the input reads as it did. -/
def laneLagsSpec : ChangeSpec := { name := "laneLags", fn := fun _ => fun
  | [d1, d2, d3, d4] => { results := [.lit (.bool true)], args := [d1, d2, d3, d4] }
  | _ => none }
def laneLagsRow : OpenClaim := { program := "ytpgfenelckonoaa", sum := "5ac577a0bec11b695646692aa85af6a36e1eddd95425a8e24af00fbc6db6f312", func := "diapause/diapauselaw16.LaneLags", spec := "laneLags", inPlace := ["slices.overlaps[int]"], unfollowed := true, recurses := true, apart := false }
def LaneLagsSaid : Prop := laneLagsRow.holds Try.pinned (OpenSpec.ofChange laneLagsSpec)

/-- ITS FALSE NEIGHBOUR: 'it returns false'. Refute it at one input. -/
def laneLagsWrong : ChangeSpec := { name := "laneLags", fn := fun _ => fun
  | [d1, d2, d3, d4] => { results := [.lit (.bool false)], args := [d1, d2, d3, d4] }
  | _ => none }
def LaneLagsWrongFalsely : Prop := laneLagsRow.holds Try.pinned (OpenSpec.ofChange laneLagsWrong)

/-- 'diapauselaw16.LaneStands': WHATEVER THE INPUT: true; the input reads as it did. -/
def laneStandsSpec : ChangeSpec := { name := "laneStands", fn := fun _ => fun
  | [d1, d2] => { results := [.lit (.bool true)], args := [d1, d2] }
  | _ => none }
def laneStandsRow : OpenClaim := { program := "ytpgfenelckonoaa", sum := "5ac577a0bec11b695646692aa85af6a36e1eddd95425a8e24af00fbc6db6f312", func := "diapause/diapauselaw16.LaneStands", spec := "laneStands", inPlace := ["slices.overlaps[int]"], unfollowed := true, recurses := true, apart := false }
def LaneStandsSaid : Prop := laneStandsRow.holds Try.pinned (OpenSpec.ofChange laneStandsSpec)

/-- ITS FALSE NEIGHBOUR: 'it returns false'. Refute it at one input. -/
def laneStandsWrong : ChangeSpec := { name := "laneStands", fn := fun _ => fun
  | [d1, d2] => { results := [.lit (.bool false)], args := [d1, d2] }
  | _ => none }
def LaneStandsWrongFalsely : Prop := laneStandsRow.holds Try.pinned (OpenSpec.ofChange laneStandsWrong)

/-- 'diapauselaw16.LaneBack': WHATEVER THE INPUT: true; the input reads as it did. -/
def laneBackSpec : ChangeSpec := { name := "laneBack", fn := fun _ => fun
  | [d1, d2] => { results := [.lit (.bool true)], args := [d1, d2] }
  | _ => none }
def laneBackRow : OpenClaim := { program := "ytpgfenelckonoaa", sum := "5ac577a0bec11b695646692aa85af6a36e1eddd95425a8e24af00fbc6db6f312", func := "diapause/diapauselaw16.LaneBack", spec := "laneBack", inPlace := ["slices.overlaps[int]"], unfollowed := true, recurses := true, apart := false }
def LaneBackSaid : Prop := laneBackRow.holds Try.pinned (OpenSpec.ofChange laneBackSpec)

/-- ITS FALSE NEIGHBOUR: 'it returns false'. Refute it at one input. -/
def laneBackWrong : ChangeSpec := { name := "laneBack", fn := fun _ => fun
  | [d1, d2] => { results := [.lit (.bool false)], args := [d1, d2] }
  | _ => none }
def LaneBackWrongFalsely : Prop := laneBackRow.holds Try.pinned (OpenSpec.ofChange laneBackWrong)

/- THE SECOND FORM. 'bulk': how many values and letters a reading holds, each counted each time it is reached (what is shared counts as often as it is met; a slice's spare places count too). A statement '..UptoSaid' is the law's where the arguments, and the package variables that the reading takes, are together of bulk at most 1048576: NARROWER than '..Said'. Prove '..Said' where nothing that the law and all that it calls make is longer than what came in: it says more and counts as full. Else prove '..UptoSaid'. A law counts once. -/
mutual
def uptoBulk {H : Type} : DataW H → Nat
  | .lit (.string bytes) => bytes.length + 1
  | .lit _ => 1
  | .nil => 1
  | .ptr d => uptoBulk d + 1
  | .slice elems spare => uptoBulkAll elems + uptoBulkAll spare + 1
  | .agg parts => uptoBulkAll parts + 1
  | .iface _ d => uptoBulk d + 1
  | .map entries => uptoBulkEntries entries + 1
  | .held _ => 1
def uptoBulkAll {H : Type} : List (DataW H) → Nat
  | [] => 0
  | d :: r => uptoBulk d + uptoBulkAll r
def uptoBulkEntries {H : Type} : List (Lit × DataW H) → Nat
  | [] => 0
  | x :: r => uptoBulkEntry x + uptoBulkEntries r
def uptoBulkEntry {H : Type} : Lit × DataW H → Nat
  | (.string bytes, d) => bytes.length + uptoBulk d + 1
  | (_, d) => uptoBulk d + 1
 end
def uptoSmall : (H : Type) → List (DataW H) → Bool := fun _ ds => decide (uptoBulkAll ds ≤ 1048576)
def OpenSpec.upto (s : _root_.Go.ChangeSpec) : _root_.Go.OpenSpec := { _root_.Go.OpenSpec.ofChange s with cond := some uptoSmall }

/-- 'diapauselaw16.LaneShares', WHERE WHAT IT READS IS OF BULK AT MOST 1048576: true; the input reads as it did. -/
def laneSharesUptoRow : OpenClaim := { program := "ytpgfenelckonoaa", sum := "5ac577a0bec11b695646692aa85af6a36e1eddd95425a8e24af00fbc6db6f312", func := "diapause/diapauselaw16.LaneShares", spec := "laneShares", inPlace := ["slices.overlaps[int]"], unfollowed := true, recurses := true, apart := false, narrowed := true }
def LaneSharesUptoSaid : Prop := laneSharesUptoRow.holds Try.pinned (OpenSpec.upto laneSharesSpec)

/-- 'diapauselaw16.LanePicks', WHERE WHAT IT READS IS OF BULK AT MOST 1048576: true; the input reads as it did. -/
def lanePicksUptoRow : OpenClaim := { program := "ytpgfenelckonoaa", sum := "5ac577a0bec11b695646692aa85af6a36e1eddd95425a8e24af00fbc6db6f312", func := "diapause/diapauselaw16.LanePicks", spec := "lanePicks", inPlace := ["slices.overlaps[int]"], unfollowed := true, recurses := true, apart := false, narrowed := true }
def LanePicksUptoSaid : Prop := lanePicksUptoRow.holds Try.pinned (OpenSpec.upto lanePicksSpec)

/-- 'diapauselaw16.LaneLags', WHERE WHAT IT READS IS OF BULK AT MOST 1048576: true; the input reads as it did. -/
def laneLagsUptoRow : OpenClaim := { program := "ytpgfenelckonoaa", sum := "5ac577a0bec11b695646692aa85af6a36e1eddd95425a8e24af00fbc6db6f312", func := "diapause/diapauselaw16.LaneLags", spec := "laneLags", inPlace := ["slices.overlaps[int]"], unfollowed := true, recurses := true, apart := false, narrowed := true }
def LaneLagsUptoSaid : Prop := laneLagsUptoRow.holds Try.pinned (OpenSpec.upto laneLagsSpec)

/-- 'diapauselaw16.LaneStands', WHERE WHAT IT READS IS OF BULK AT MOST 1048576: true; the input reads as it did. -/
def laneStandsUptoRow : OpenClaim := { program := "ytpgfenelckonoaa", sum := "5ac577a0bec11b695646692aa85af6a36e1eddd95425a8e24af00fbc6db6f312", func := "diapause/diapauselaw16.LaneStands", spec := "laneStands", inPlace := ["slices.overlaps[int]"], unfollowed := true, recurses := true, apart := false, narrowed := true }
def LaneStandsUptoSaid : Prop := laneStandsUptoRow.holds Try.pinned (OpenSpec.upto laneStandsSpec)

/-- 'diapauselaw16.LaneBack', WHERE WHAT IT READS IS OF BULK AT MOST 1048576: true; the input reads as it did. -/
def laneBackUptoRow : OpenClaim := { program := "ytpgfenelckonoaa", sum := "5ac577a0bec11b695646692aa85af6a36e1eddd95425a8e24af00fbc6db6f312", func := "diapause/diapauselaw16.LaneBack", spec := "laneBack", inPlace := ["slices.overlaps[int]"], unfollowed := true, recurses := true, apart := false, narrowed := true }
def LaneBackUptoSaid : Prop := laneBackUptoRow.holds Try.pinned (OpenSpec.upto laneBackSpec)

end Rows
end Go.Proofs.Ytpgfenelckonoaa
