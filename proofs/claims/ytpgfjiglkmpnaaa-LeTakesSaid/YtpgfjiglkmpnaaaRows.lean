/-
  No cell of these rows narrows 'for every input' (looked for: loops, veiled, ifaces, maps, wideKeys, modest, calm, conditions, laid).
  DERIVED. THE GIVEN ROWS OF THIS SEAT. 7 by the template 'for every input the law returns true; each argument reads behind the call as it read before'; 0 by the template 'total and deterministic' (their statements: YtpgfjiglkmpnaaaTotals.lean).
  GIVEN WITH THE SEED: the statements are not yours to turn. If you find one false, say at which input.
  Laid BY PROGRAM, IN A SANDBOX (cutbox-rows.mjs): the forced cells as the released guide's own fill.sh prints them over the translation aefee6faeeaa0fc6… (all of the seat's roots in one cut). By AI agents, Wed Nov 11 2026. No macro, syntax, notation, axiom, sorry.
-/
import Derived.Test.YtpgfjiglkmpnaaaChecked
import GoSem.Claim
import GoSem.ClaimJoined
import GoSem.ClaimMapViews
import Derived.JoinedTies
import Derived.KernelRfl
namespace Go.Proofs.Ytpgfjiglkmpnaaa
/- THE CELL 'sum', in the pinned program and in every row, IS THE sha256 OF THE DUMP (.gsa) THAT YtpgfjiglkmpnaaaProg.lean LOADS. Nothing in Lean hashes anything: it is a label: what it is worth is what the hold of that sum in a sandbox is worth. -/
noncomputable def Try.pinned : Pinned := { name := "ytpgfjiglkmpnaaa", sum := "aefee6faeeaa0fc6c40fc56f9829de28493da5f751ad0ef666d1856c6c061298", checked := Try.checked }
namespace Rows
def none {H : Type} : Left H := { results := [], args := [] }

/-- 'diapauselaw01.LePuts': WHATEVER THE INPUT: true; the input reads as it did. -/
def lePutsSpec : ChangeSpec := { name := "lePuts", fn := fun _ => fun
  | [d1, d2, d3] => { results := [.lit (.bool true)], args := [d1, d2, d3] }
  | _ => none }
def lePutsRow : OpenClaim := { program := "ytpgfjiglkmpnaaa", sum := "aefee6faeeaa0fc6c40fc56f9829de28493da5f751ad0ef666d1856c6c061298", func := "diapause/diapauselaw01.LePuts", spec := "lePuts", apart := false }
def LePutsSaid : Prop := lePutsRow.holds Try.pinned (OpenSpec.ofChange lePutsSpec)

/-- ITS FALSE NEIGHBOUR: 'it returns false'. Refute it at one input. -/
def lePutsWrong : ChangeSpec := { name := "lePuts", fn := fun _ => fun
  | [d1, d2, d3] => { results := [.lit (.bool false)], args := [d1, d2, d3] }
  | _ => none }
def LePutsWrongFalsely : Prop := lePutsRow.holds Try.pinned (OpenSpec.ofChange lePutsWrong)

/-- 'diapauselaw01.LeUnlike': WHATEVER THE INPUT: true; the input reads as it did. -/
def leUnlikeSpec : ChangeSpec := { name := "leUnlike", fn := fun _ => fun
  | [d1, d2, d3] => { results := [.lit (.bool true)], args := [d1, d2, d3] }
  | _ => none }
def leUnlikeRow : OpenClaim := { program := "ytpgfjiglkmpnaaa", sum := "aefee6faeeaa0fc6c40fc56f9829de28493da5f751ad0ef666d1856c6c061298", func := "diapause/diapauselaw01.LeUnlike", spec := "leUnlike", apart := false }
def LeUnlikeSaid : Prop := leUnlikeRow.holds Try.pinned (OpenSpec.ofChange leUnlikeSpec)

/-- ITS FALSE NEIGHBOUR: 'it returns false'. Refute it at one input. -/
def leUnlikeWrong : ChangeSpec := { name := "leUnlike", fn := fun _ => fun
  | [d1, d2, d3] => { results := [.lit (.bool false)], args := [d1, d2, d3] }
  | _ => none }
def LeUnlikeWrongFalsely : Prop := leUnlikeRow.holds Try.pinned (OpenSpec.ofChange leUnlikeWrong)

/-- 'diapauselaw01.LeSigned': WHATEVER THE INPUT: true; the input reads as it did. -/
def leSignedSpec : ChangeSpec := { name := "leSigned", fn := fun _ => fun
  | [d1, d2] => { results := [.lit (.bool true)], args := [d1, d2] }
  | _ => none }
def leSignedRow : OpenClaim := { program := "ytpgfjiglkmpnaaa", sum := "aefee6faeeaa0fc6c40fc56f9829de28493da5f751ad0ef666d1856c6c061298", func := "diapause/diapauselaw01.LeSigned", spec := "leSigned", apart := false }
def LeSignedSaid : Prop := leSignedRow.holds Try.pinned (OpenSpec.ofChange leSignedSpec)

/-- ITS FALSE NEIGHBOUR: 'it returns false'. Refute it at one input. -/
def leSignedWrong : ChangeSpec := { name := "leSigned", fn := fun _ => fun
  | [d1, d2] => { results := [.lit (.bool false)], args := [d1, d2] }
  | _ => none }
def LeSignedWrongFalsely : Prop := leSignedRow.holds Try.pinned (OpenSpec.ofChange leSignedWrong)

/-- 'diapauselaw01.LeSides': WHATEVER THE INPUT: true; the input reads as it did. -/
def leSidesSpec : ChangeSpec := { name := "leSides", fn := fun _ => fun
  | [d1, d2, d3] => { results := [.lit (.bool true)], args := [d1, d2, d3] }
  | _ => none }
def leSidesRow : OpenClaim := { program := "ytpgfjiglkmpnaaa", sum := "aefee6faeeaa0fc6c40fc56f9829de28493da5f751ad0ef666d1856c6c061298", func := "diapause/diapauselaw01.LeSides", spec := "leSides", apart := false }
def LeSidesSaid : Prop := leSidesRow.holds Try.pinned (OpenSpec.ofChange leSidesSpec)

/-- ITS FALSE NEIGHBOUR: 'it returns false'. Refute it at one input. -/
def leSidesWrong : ChangeSpec := { name := "leSides", fn := fun _ => fun
  | [d1, d2, d3] => { results := [.lit (.bool false)], args := [d1, d2, d3] }
  | _ => none }
def LeSidesWrongFalsely : Prop := leSidesRow.holds Try.pinned (OpenSpec.ofChange leSidesWrong)

/-- 'diapauselaw01.LeTakes': WHATEVER THE INPUT: true; the input reads as it did. -/
def leTakesSpec : ChangeSpec := { name := "leTakes", fn := fun _ => fun
  | [d1, d2, d3] => { results := [.lit (.bool true)], args := [d1, d2, d3] }
  | _ => none }
def leTakesRow : OpenClaim := { program := "ytpgfjiglkmpnaaa", sum := "aefee6faeeaa0fc6c40fc56f9829de28493da5f751ad0ef666d1856c6c061298", func := "diapause/diapauselaw01.LeTakes", spec := "leTakes", apart := false }
def LeTakesSaid : Prop := leTakesRow.holds Try.pinned (OpenSpec.ofChange leTakesSpec)

/-- ITS FALSE NEIGHBOUR: 'it returns false'. Refute it at one input. -/
def leTakesWrong : ChangeSpec := { name := "leTakes", fn := fun _ => fun
  | [d1, d2, d3] => { results := [.lit (.bool false)], args := [d1, d2, d3] }
  | _ => none }
def LeTakesWrongFalsely : Prop := leTakesRow.holds Try.pinned (OpenSpec.ofChange leTakesWrong)

/-- 'diapauselaw01.LeBack': WHATEVER THE INPUT: true; the input reads as it did. -/
def leBackSpec : ChangeSpec := { name := "leBack", fn := fun _ => fun
  | [d1, d2, d3] => { results := [.lit (.bool true)], args := [d1, d2, d3] }
  | _ => none }
def leBackRow : OpenClaim := { program := "ytpgfjiglkmpnaaa", sum := "aefee6faeeaa0fc6c40fc56f9829de28493da5f751ad0ef666d1856c6c061298", func := "diapause/diapauselaw01.LeBack", spec := "leBack", apart := false }
def LeBackSaid : Prop := leBackRow.holds Try.pinned (OpenSpec.ofChange leBackSpec)

/-- ITS FALSE NEIGHBOUR: 'it returns false'. Refute it at one input. -/
def leBackWrong : ChangeSpec := { name := "leBack", fn := fun _ => fun
  | [d1, d2, d3] => { results := [.lit (.bool false)], args := [d1, d2, d3] }
  | _ => none }
def LeBackWrongFalsely : Prop := leBackRow.holds Try.pinned (OpenSpec.ofChange leBackWrong)

/-- 'diapauselaw01.LeStays': WHATEVER THE INPUT: true; the input reads as it did. -/
def leStaysSpec : ChangeSpec := { name := "leStays", fn := fun _ => fun
  | [d1, d2, d3] => { results := [.lit (.bool true)], args := [d1, d2, d3] }
  | _ => none }
def leStaysRow : OpenClaim := { program := "ytpgfjiglkmpnaaa", sum := "aefee6faeeaa0fc6c40fc56f9829de28493da5f751ad0ef666d1856c6c061298", func := "diapause/diapauselaw01.LeStays", spec := "leStays", apart := false }
def LeStaysSaid : Prop := leStaysRow.holds Try.pinned (OpenSpec.ofChange leStaysSpec)

/-- ITS FALSE NEIGHBOUR: 'it returns false'. Refute it at one input. -/
def leStaysWrong : ChangeSpec := { name := "leStays", fn := fun _ => fun
  | [d1, d2, d3] => { results := [.lit (.bool false)], args := [d1, d2, d3] }
  | _ => none }
def LeStaysWrongFalsely : Prop := leStaysRow.holds Try.pinned (OpenSpec.ofChange leStaysWrong)

/- THE SECOND FORM. 'bulk': how many values and letters a reading holds, each counted each time it is reached (what is shared counts as often as it is met; a slice's spare places count too). A statement '..UptoSaid' is the law's where the arguments, and the package variables that the reading takes, are together of bulk at most 1048576: NARROWER than '..Said'. Prove '..Said' where nothing that the law and all that it calls make is longer than what came in: it says more and counts as full. Else prove '..UptoSaid'. A law counts once. -/
mutual
def uptoBulk {H : Type} : DataW H → Nat
  | .lit (.string bytes) => bytes.length + 1
  | .lit _ => 1
  | .nil => 1
  | .ptr d => uptoBulk d + 1
  | .slice elems spare => uptoBulkAll elems + uptoBulkAll spare + 1
  | .agg parts => uptoBulkAll parts + 1
  | .iface _ d => uptoBulk d + 1
  | .map entries => uptoBulkEntries entries + 1
  | .held _ => 1
def uptoBulkAll {H : Type} : List (DataW H) → Nat
  | [] => 0
  | d :: r => uptoBulk d + uptoBulkAll r
def uptoBulkEntries {H : Type} : List (Lit × DataW H) → Nat
  | [] => 0
  | x :: r => uptoBulkEntry x + uptoBulkEntries r
def uptoBulkEntry {H : Type} : Lit × DataW H → Nat
  | (.string bytes, d) => bytes.length + uptoBulk d + 1
  | (_, d) => uptoBulk d + 1
 end
def uptoSmall : (H : Type) → List (DataW H) → Bool := fun _ ds => decide (uptoBulkAll ds ≤ 1048576)
def OpenSpec.upto (s : _root_.Go.ChangeSpec) : _root_.Go.OpenSpec := { _root_.Go.OpenSpec.ofChange s with cond := some uptoSmall }

/-- 'diapauselaw01.LePuts', WHERE WHAT IT READS IS OF BULK AT MOST 1048576: true; the input reads as it did. -/
def lePutsUptoRow : OpenClaim := { program := "ytpgfjiglkmpnaaa", sum := "aefee6faeeaa0fc6c40fc56f9829de28493da5f751ad0ef666d1856c6c061298", func := "diapause/diapauselaw01.LePuts", spec := "lePuts", apart := false, narrowed := true }
def LePutsUptoSaid : Prop := lePutsUptoRow.holds Try.pinned (OpenSpec.upto lePutsSpec)

/-- 'diapauselaw01.LeUnlike', WHERE WHAT IT READS IS OF BULK AT MOST 1048576: true; the input reads as it did. -/
def leUnlikeUptoRow : OpenClaim := { program := "ytpgfjiglkmpnaaa", sum := "aefee6faeeaa0fc6c40fc56f9829de28493da5f751ad0ef666d1856c6c061298", func := "diapause/diapauselaw01.LeUnlike", spec := "leUnlike", apart := false, narrowed := true }
def LeUnlikeUptoSaid : Prop := leUnlikeUptoRow.holds Try.pinned (OpenSpec.upto leUnlikeSpec)

/-- 'diapauselaw01.LeSigned', WHERE WHAT IT READS IS OF BULK AT MOST 1048576: true; the input reads as it did. -/
def leSignedUptoRow : OpenClaim := { program := "ytpgfjiglkmpnaaa", sum := "aefee6faeeaa0fc6c40fc56f9829de28493da5f751ad0ef666d1856c6c061298", func := "diapause/diapauselaw01.LeSigned", spec := "leSigned", apart := false, narrowed := true }
def LeSignedUptoSaid : Prop := leSignedUptoRow.holds Try.pinned (OpenSpec.upto leSignedSpec)

/-- 'diapauselaw01.LeSides', WHERE WHAT IT READS IS OF BULK AT MOST 1048576: true; the input reads as it did. -/
def leSidesUptoRow : OpenClaim := { program := "ytpgfjiglkmpnaaa", sum := "aefee6faeeaa0fc6c40fc56f9829de28493da5f751ad0ef666d1856c6c061298", func := "diapause/diapauselaw01.LeSides", spec := "leSides", apart := false, narrowed := true }
def LeSidesUptoSaid : Prop := leSidesUptoRow.holds Try.pinned (OpenSpec.upto leSidesSpec)

/-- 'diapauselaw01.LeTakes', WHERE WHAT IT READS IS OF BULK AT MOST 1048576: true; the input reads as it did. -/
def leTakesUptoRow : OpenClaim := { program := "ytpgfjiglkmpnaaa", sum := "aefee6faeeaa0fc6c40fc56f9829de28493da5f751ad0ef666d1856c6c061298", func := "diapause/diapauselaw01.LeTakes", spec := "leTakes", apart := false, narrowed := true }
def LeTakesUptoSaid : Prop := leTakesUptoRow.holds Try.pinned (OpenSpec.upto leTakesSpec)

/-- 'diapauselaw01.LeBack', WHERE WHAT IT READS IS OF BULK AT MOST 1048576: true; the input reads as it did. -/
def leBackUptoRow : OpenClaim := { program := "ytpgfjiglkmpnaaa", sum := "aefee6faeeaa0fc6c40fc56f9829de28493da5f751ad0ef666d1856c6c061298", func := "diapause/diapauselaw01.LeBack", spec := "leBack", apart := false, narrowed := true }
def LeBackUptoSaid : Prop := leBackUptoRow.holds Try.pinned (OpenSpec.upto leBackSpec)

/-- 'diapauselaw01.LeStays', WHERE WHAT IT READS IS OF BULK AT MOST 1048576: true; the input reads as it did. -/
def leStaysUptoRow : OpenClaim := { program := "ytpgfjiglkmpnaaa", sum := "aefee6faeeaa0fc6c40fc56f9829de28493da5f751ad0ef666d1856c6c061298", func := "diapause/diapauselaw01.LeStays", spec := "leStays", apart := false, narrowed := true }
def LeStaysUptoSaid : Prop := leStaysUptoRow.holds Try.pinned (OpenSpec.upto leStaysSpec)

end Rows
end Go.Proofs.Ytpgfjiglkmpnaaa
