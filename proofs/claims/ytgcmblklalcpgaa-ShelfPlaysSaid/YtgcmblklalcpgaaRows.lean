/-
  No cell of these rows narrows 'for every input' (looked for: loops, veiled, ifaces, maps, wideKeys, modest, calm, conditions, laid).
  DERIVED. THE GIVEN ROWS OF THIS SEAT. 7 by the template 'for every input the law returns true; each argument reads behind the call as it read before'; 0 by the template 'total and deterministic' (their statements: YtgcmblklalcpgaaTotals.lean).
  GIVEN WITH THE SEED: the statements are not yours to turn. If you find one false, say at which input.
  Laid BY PROGRAM, IN A SANDBOX (cutbox-rows.mjs): the forced cells as the released guide's own fill.sh prints them over the translation e59f1916a3b4a2de… (all of the seat's roots in one cut). By AI agents, Wed Nov 11 2026. No macro, syntax, notation, axiom, sorry.
-/
import Derived.Test.YtgcmblklalcpgaaChecked
import GoSem.Claim
import GoSem.ClaimJoined
import GoSem.ClaimMapViews
import Derived.JoinedTies
import Derived.KernelRfl
namespace Go.Proofs.Ytgcmblklalcpgaa
/- THE CELL 'sum', in the pinned program and in every row, IS THE sha256 OF THE DUMP (.gsa) THAT YtgcmblklalcpgaaProg.lean LOADS. Nothing in Lean hashes anything: it is a label: what it is worth is what the hold of that sum in a sandbox is worth. -/
noncomputable def Try.pinned : Pinned := { name := "ytgcmblklalcpgaa", sum := "e59f1916a3b4a2de4e4357aa2c814c296ecfca4299064432bb48a4e5e0187342", checked := Try.checked }
namespace Rows
def none {H : Type} : Left H := { results := [], args := [] }

/-- 'diapauselaw06.ShelfSplits': WHATEVER THE INPUT: true; the input reads as it did. -/
def shelfSplitsSpec : ChangeSpec := { name := "shelfSplits", fn := fun _ => fun
  | [d1, d2] => { results := [.lit (.bool true)], args := [d1, d2] }
  | _ => none }
def shelfSplitsRow : OpenClaim := { program := "ytgcmblklalcpgaa", sum := "e59f1916a3b4a2de4e4357aa2c814c296ecfca4299064432bb48a4e5e0187342", func := "diapause/diapauselaw06.ShelfSplits", spec := "shelfSplits", recurses := true, apart := false }
def ShelfSplitsSaid : Prop := shelfSplitsRow.holds Try.pinned (OpenSpec.ofChange shelfSplitsSpec)

/-- ITS FALSE NEIGHBOUR: 'it returns false'. Refute it at one input. -/
def shelfSplitsWrong : ChangeSpec := { name := "shelfSplits", fn := fun _ => fun
  | [d1, d2] => { results := [.lit (.bool false)], args := [d1, d2] }
  | _ => none }
def ShelfSplitsWrongFalsely : Prop := shelfSplitsRow.holds Try.pinned (OpenSpec.ofChange shelfSplitsWrong)

/-- 'diapauselaw06.ShelfFlat': WHATEVER THE INPUT: true; the input reads as it did. -/
def shelfFlatSpec : ChangeSpec := { name := "shelfFlat", fn := fun _ => fun
  | [d1, d2, d3] => { results := [.lit (.bool true)], args := [d1, d2, d3] }
  | _ => none }
def shelfFlatRow : OpenClaim := { program := "ytgcmblklalcpgaa", sum := "e59f1916a3b4a2de4e4357aa2c814c296ecfca4299064432bb48a4e5e0187342", func := "diapause/diapauselaw06.ShelfFlat", spec := "shelfFlat", recurses := true, apart := false }
def ShelfFlatSaid : Prop := shelfFlatRow.holds Try.pinned (OpenSpec.ofChange shelfFlatSpec)

/-- ITS FALSE NEIGHBOUR: 'it returns false'. Refute it at one input. -/
def shelfFlatWrong : ChangeSpec := { name := "shelfFlat", fn := fun _ => fun
  | [d1, d2, d3] => { results := [.lit (.bool false)], args := [d1, d2, d3] }
  | _ => none }
def ShelfFlatWrongFalsely : Prop := shelfFlatRow.holds Try.pinned (OpenSpec.ofChange shelfFlatWrong)

/-- 'diapauselaw06.ShelfPlays': WHATEVER THE INPUT: true; the input reads as it did. -/
def shelfPlaysSpec : ChangeSpec := { name := "shelfPlays", fn := fun _ => fun
  | [d1, d2, d3] => { results := [.lit (.bool true)], args := [d1, d2, d3] }
  | _ => none }
def shelfPlaysRow : OpenClaim := { program := "ytgcmblklalcpgaa", sum := "e59f1916a3b4a2de4e4357aa2c814c296ecfca4299064432bb48a4e5e0187342", func := "diapause/diapauselaw06.ShelfPlays", spec := "shelfPlays", unfollowed := true, recurses := true, apart := false }
def ShelfPlaysSaid : Prop := shelfPlaysRow.holds Try.pinned (OpenSpec.ofChange shelfPlaysSpec)

/-- ITS FALSE NEIGHBOUR: 'it returns false'. Refute it at one input. -/
def shelfPlaysWrong : ChangeSpec := { name := "shelfPlays", fn := fun _ => fun
  | [d1, d2, d3] => { results := [.lit (.bool false)], args := [d1, d2, d3] }
  | _ => none }
def ShelfPlaysWrongFalsely : Prop := shelfPlaysRow.holds Try.pinned (OpenSpec.ofChange shelfPlaysWrong)

/-- 'diapauselaw06.ShelfRises': WHATEVER THE INPUT: true; the input reads as it did. -/
def shelfRisesSpec : ChangeSpec := { name := "shelfRises", fn := fun _ => fun
  | [d] => { results := [.lit (.bool true)], args := [d] }
  | _ => none }
def shelfRisesRow : OpenClaim := { program := "ytgcmblklalcpgaa", sum := "e59f1916a3b4a2de4e4357aa2c814c296ecfca4299064432bb48a4e5e0187342", func := "diapause/diapauselaw06.ShelfRises", spec := "shelfRises", unfollowed := true, recurses := true, apart := false }
def ShelfRisesSaid : Prop := shelfRisesRow.holds Try.pinned (OpenSpec.ofChange shelfRisesSpec)

/-- ITS FALSE NEIGHBOUR: 'it returns false'. Refute it at one input. -/
def shelfRisesWrong : ChangeSpec := { name := "shelfRises", fn := fun _ => fun
  | [d] => { results := [.lit (.bool false)], args := [d] }
  | _ => none }
def ShelfRisesWrongFalsely : Prop := shelfRisesRow.holds Try.pinned (OpenSpec.ofChange shelfRisesWrong)

/-- 'diapauselaw06.ShelfOrder': WHATEVER THE INPUT: true; the input reads as it did. -/
def shelfOrderSpec : ChangeSpec := { name := "shelfOrder", fn := fun _ => fun
  | [d1, d2, d3] => { results := [.lit (.bool true)], args := [d1, d2, d3] }
  | _ => none }
def shelfOrderRow : OpenClaim := { program := "ytgcmblklalcpgaa", sum := "e59f1916a3b4a2de4e4357aa2c814c296ecfca4299064432bb48a4e5e0187342", func := "diapause/diapauselaw06.ShelfOrder", spec := "shelfOrder", unfollowed := true, recurses := true, apart := false }
def ShelfOrderSaid : Prop := shelfOrderRow.holds Try.pinned (OpenSpec.ofChange shelfOrderSpec)

/-- ITS FALSE NEIGHBOUR: 'it returns false'. Refute it at one input. -/
def shelfOrderWrong : ChangeSpec := { name := "shelfOrder", fn := fun _ => fun
  | [d1, d2, d3] => { results := [.lit (.bool false)], args := [d1, d2, d3] }
  | _ => none }
def ShelfOrderWrongFalsely : Prop := shelfOrderRow.holds Try.pinned (OpenSpec.ofChange shelfOrderWrong)

/-- 'diapauselaw06.ShelfBack': WHATEVER THE INPUT: true; the input reads as it did. -/
def shelfBackSpec : ChangeSpec := { name := "shelfBack", fn := fun _ => fun
  | [d1, d2] => { results := [.lit (.bool true)], args := [d1, d2] }
  | _ => none }
def shelfBackRow : OpenClaim := { program := "ytgcmblklalcpgaa", sum := "e59f1916a3b4a2de4e4357aa2c814c296ecfca4299064432bb48a4e5e0187342", func := "diapause/diapauselaw06.ShelfBack", spec := "shelfBack", unfollowed := true, recurses := true, apart := false }
def ShelfBackSaid : Prop := shelfBackRow.holds Try.pinned (OpenSpec.ofChange shelfBackSpec)

/-- ITS FALSE NEIGHBOUR: 'it returns false'. Refute it at one input. -/
def shelfBackWrong : ChangeSpec := { name := "shelfBack", fn := fun _ => fun
  | [d1, d2] => { results := [.lit (.bool false)], args := [d1, d2] }
  | _ => none }
def ShelfBackWrongFalsely : Prop := shelfBackRow.holds Try.pinned (OpenSpec.ofChange shelfBackWrong)

/-- 'diapauselaw06.ShelfStops': WHATEVER THE INPUT: true; the input reads as it did. -/
def shelfStopsSpec : ChangeSpec := { name := "shelfStops", fn := fun _ => fun
  | [d1, d2] => { results := [.lit (.bool true)], args := [d1, d2] }
  | _ => none }
def shelfStopsRow : OpenClaim := { program := "ytgcmblklalcpgaa", sum := "e59f1916a3b4a2de4e4357aa2c814c296ecfca4299064432bb48a4e5e0187342", func := "diapause/diapauselaw06.ShelfStops", spec := "shelfStops", unfollowed := true, recurses := true, apart := false }
def ShelfStopsSaid : Prop := shelfStopsRow.holds Try.pinned (OpenSpec.ofChange shelfStopsSpec)

/-- ITS FALSE NEIGHBOUR: 'it returns false'. Refute it at one input. -/
def shelfStopsWrong : ChangeSpec := { name := "shelfStops", fn := fun _ => fun
  | [d1, d2] => { results := [.lit (.bool false)], args := [d1, d2] }
  | _ => none }
def ShelfStopsWrongFalsely : Prop := shelfStopsRow.holds Try.pinned (OpenSpec.ofChange shelfStopsWrong)

/- THE SECOND FORM. 'bulk': how many values and letters a reading holds, each counted each time it is reached (what is shared counts as often as it is met; a slice's spare places count too). A statement '..UptoSaid' is the law's where the arguments, and the package variables that the reading takes, are together of bulk at most 1048576: NARROWER than '..Said'. Prove '..Said' where nothing that the law and all that it calls make is longer than what came in: it says more and counts as full. Else prove '..UptoSaid'. A law counts once. -/
mutual
def uptoBulk {H : Type} : DataW H → Nat
  | .lit (.string bytes) => bytes.length + 1
  | .lit _ => 1
  | .nil => 1
  | .ptr d => uptoBulk d + 1
  | .slice elems spare => uptoBulkAll elems + uptoBulkAll spare + 1
  | .agg parts => uptoBulkAll parts + 1
  | .iface _ d => uptoBulk d + 1
  | .map entries => uptoBulkEntries entries + 1
  | .held _ => 1
def uptoBulkAll {H : Type} : List (DataW H) → Nat
  | [] => 0
  | d :: r => uptoBulk d + uptoBulkAll r
def uptoBulkEntries {H : Type} : List (Lit × DataW H) → Nat
  | [] => 0
  | x :: r => uptoBulkEntry x + uptoBulkEntries r
def uptoBulkEntry {H : Type} : Lit × DataW H → Nat
  | (.string bytes, d) => bytes.length + uptoBulk d + 1
  | (_, d) => uptoBulk d + 1
 end
def uptoSmall : (H : Type) → List (DataW H) → Bool := fun _ ds => decide (uptoBulkAll ds ≤ 1048576)
def OpenSpec.upto (s : _root_.Go.ChangeSpec) : _root_.Go.OpenSpec := { _root_.Go.OpenSpec.ofChange s with cond := some uptoSmall }

/-- 'diapauselaw06.ShelfSplits', WHERE WHAT IT READS IS OF BULK AT MOST 1048576: true; the input reads as it did. -/
def shelfSplitsUptoRow : OpenClaim := { program := "ytgcmblklalcpgaa", sum := "e59f1916a3b4a2de4e4357aa2c814c296ecfca4299064432bb48a4e5e0187342", func := "diapause/diapauselaw06.ShelfSplits", spec := "shelfSplits", recurses := true, apart := false, narrowed := true }
def ShelfSplitsUptoSaid : Prop := shelfSplitsUptoRow.holds Try.pinned (OpenSpec.upto shelfSplitsSpec)

/-- 'diapauselaw06.ShelfFlat', WHERE WHAT IT READS IS OF BULK AT MOST 1048576: true; the input reads as it did. -/
def shelfFlatUptoRow : OpenClaim := { program := "ytgcmblklalcpgaa", sum := "e59f1916a3b4a2de4e4357aa2c814c296ecfca4299064432bb48a4e5e0187342", func := "diapause/diapauselaw06.ShelfFlat", spec := "shelfFlat", recurses := true, apart := false, narrowed := true }
def ShelfFlatUptoSaid : Prop := shelfFlatUptoRow.holds Try.pinned (OpenSpec.upto shelfFlatSpec)

/-- 'diapauselaw06.ShelfPlays', WHERE WHAT IT READS IS OF BULK AT MOST 1048576: true; the input reads as it did. -/
def shelfPlaysUptoRow : OpenClaim := { program := "ytgcmblklalcpgaa", sum := "e59f1916a3b4a2de4e4357aa2c814c296ecfca4299064432bb48a4e5e0187342", func := "diapause/diapauselaw06.ShelfPlays", spec := "shelfPlays", unfollowed := true, recurses := true, apart := false, narrowed := true }
def ShelfPlaysUptoSaid : Prop := shelfPlaysUptoRow.holds Try.pinned (OpenSpec.upto shelfPlaysSpec)

/-- 'diapauselaw06.ShelfRises', WHERE WHAT IT READS IS OF BULK AT MOST 1048576: true; the input reads as it did. -/
def shelfRisesUptoRow : OpenClaim := { program := "ytgcmblklalcpgaa", sum := "e59f1916a3b4a2de4e4357aa2c814c296ecfca4299064432bb48a4e5e0187342", func := "diapause/diapauselaw06.ShelfRises", spec := "shelfRises", unfollowed := true, recurses := true, apart := false, narrowed := true }
def ShelfRisesUptoSaid : Prop := shelfRisesUptoRow.holds Try.pinned (OpenSpec.upto shelfRisesSpec)

/-- 'diapauselaw06.ShelfOrder', WHERE WHAT IT READS IS OF BULK AT MOST 1048576: true; the input reads as it did. -/
def shelfOrderUptoRow : OpenClaim := { program := "ytgcmblklalcpgaa", sum := "e59f1916a3b4a2de4e4357aa2c814c296ecfca4299064432bb48a4e5e0187342", func := "diapause/diapauselaw06.ShelfOrder", spec := "shelfOrder", unfollowed := true, recurses := true, apart := false, narrowed := true }
def ShelfOrderUptoSaid : Prop := shelfOrderUptoRow.holds Try.pinned (OpenSpec.upto shelfOrderSpec)

/-- 'diapauselaw06.ShelfBack', WHERE WHAT IT READS IS OF BULK AT MOST 1048576: true; the input reads as it did. -/
def shelfBackUptoRow : OpenClaim := { program := "ytgcmblklalcpgaa", sum := "e59f1916a3b4a2de4e4357aa2c814c296ecfca4299064432bb48a4e5e0187342", func := "diapause/diapauselaw06.ShelfBack", spec := "shelfBack", unfollowed := true, recurses := true, apart := false, narrowed := true }
def ShelfBackUptoSaid : Prop := shelfBackUptoRow.holds Try.pinned (OpenSpec.upto shelfBackSpec)

/-- 'diapauselaw06.ShelfStops', WHERE WHAT IT READS IS OF BULK AT MOST 1048576: true; the input reads as it did. -/
def shelfStopsUptoRow : OpenClaim := { program := "ytgcmblklalcpgaa", sum := "e59f1916a3b4a2de4e4357aa2c814c296ecfca4299064432bb48a4e5e0187342", func := "diapause/diapauselaw06.ShelfStops", spec := "shelfStops", unfollowed := true, recurses := true, apart := false, narrowed := true }
def ShelfStopsUptoSaid : Prop := shelfStopsUptoRow.holds Try.pinned (OpenSpec.upto shelfStopsSpec)

end Rows
end Go.Proofs.Ytgcmblklalcpgaa
