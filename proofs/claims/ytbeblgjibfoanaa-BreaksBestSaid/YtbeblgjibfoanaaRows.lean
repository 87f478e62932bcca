/-
  No cell of these rows narrows 'for every input' (looked for: loops, veiled, ifaces, maps, wideKeys, modest, calm, conditions, laid).
  DERIVED. THE GIVEN ROWS OF THIS SEAT. 7 by the template 'for every input the law returns true; each argument reads behind the call as it read before'; 0 by the template 'total and deterministic' (their statements: YtbeblgjibfoanaaTotals.lean).
  GIVEN WITH THE SEED: the statements are not yours to turn. If you find one false, say at which input.
  Laid BY PROGRAM, IN A SANDBOX (cutbox-rows.mjs): the forced cells as the released guide's own fill.sh prints them over the translation 33639280de73782f… (all of the seat's roots in one cut). By AI agents, Wed Nov 11 2026. No macro, syntax, notation, axiom, sorry.
-/
import Derived.Test.YtbeblgjibfoanaaChecked
import GoSem.Claim
import GoSem.ClaimJoined
import GoSem.ClaimMapViews
import Derived.JoinedTies
import Derived.KernelRfl
namespace Go.Proofs.Ytbeblgjibfoanaa
/- THE CELL 'sum', in the pinned program and in every row, IS THE sha256 OF THE DUMP (.gsa) THAT YtbeblgjibfoanaaProg.lean LOADS. Nothing in Lean hashes anything: it is a label: what it is worth is what the hold of that sum in a sandbox is worth. -/
noncomputable def Try.pinned : Pinned := { name := "ytbeblgjibfoanaa", sum := "33639280de73782f872efde6d8e9dd1f19ba66ea795e55870a6d114d4b7fff60", checked := Try.checked }
namespace Rows
def none {H : Type} : Left H := { results := [], args := [] }

/-- 'colophonlaw24.BreaksBest': WHATEVER THE INPUT: true; the input reads as it did. -/
def breaksBestSpec : ChangeSpec := { name := "breaksBest", fn := fun _ => fun
  | [d1, d2] => { results := [.lit (.bool true)], args := [d1, d2] }
  | _ => none }
def breaksBestRow : OpenClaim := { program := "ytbeblgjibfoanaa", sum := "33639280de73782f872efde6d8e9dd1f19ba66ea795e55870a6d114d4b7fff60", func := "colophon/colophonlaw24.BreaksBest", spec := "breaksBest", apart := false }
def BreaksBestSaid : Prop := breaksBestRow.holds Try.pinned (OpenSpec.ofChange breaksBestSpec)

/-- ITS FALSE NEIGHBOUR: 'it returns false'. Refute it at one input. -/
def breaksBestWrong : ChangeSpec := { name := "breaksBest", fn := fun _ => fun
  | [d1, d2] => { results := [.lit (.bool false)], args := [d1, d2] }
  | _ => none }
def BreaksBestWrongFalsely : Prop := breaksBestRow.holds Try.pinned (OpenSpec.ofChange breaksBestWrong)

/-- 'colophonlaw24.BreaksAll': WHATEVER THE INPUT: true; the input reads as it did. -/
def breaksAllSpec : ChangeSpec := { name := "breaksAll", fn := fun _ => fun
  | [d1, d2] => { results := [.lit (.bool true)], args := [d1, d2] }
  | _ => none }
def breaksAllRow : OpenClaim := { program := "ytbeblgjibfoanaa", sum := "33639280de73782f872efde6d8e9dd1f19ba66ea795e55870a6d114d4b7fff60", func := "colophon/colophonlaw24.BreaksAll", spec := "breaksAll", recurses := true, apart := false }
def BreaksAllSaid : Prop := breaksAllRow.holds Try.pinned (OpenSpec.ofChange breaksAllSpec)

/-- ITS FALSE NEIGHBOUR: 'it returns false'. Refute it at one input. -/
def breaksAllWrong : ChangeSpec := { name := "breaksAll", fn := fun _ => fun
  | [d1, d2] => { results := [.lit (.bool false)], args := [d1, d2] }
  | _ => none }
def BreaksAllWrongFalsely : Prop := breaksAllRow.holds Try.pinned (OpenSpec.ofChange breaksAllWrong)

/-- 'colophonlaw24.BreaksWider': WHATEVER THE INPUT: true; the input reads as it did. -/
def breaksWiderSpec : ChangeSpec := { name := "breaksWider", fn := fun _ => fun
  | [d1, d2, d3] => { results := [.lit (.bool true)], args := [d1, d2, d3] }
  | _ => none }
def breaksWiderRow : OpenClaim := { program := "ytbeblgjibfoanaa", sum := "33639280de73782f872efde6d8e9dd1f19ba66ea795e55870a6d114d4b7fff60", func := "colophon/colophonlaw24.BreaksWider", spec := "breaksWider", apart := false }
def BreaksWiderSaid : Prop := breaksWiderRow.holds Try.pinned (OpenSpec.ofChange breaksWiderSpec)

/-- ITS FALSE NEIGHBOUR: 'it returns false'. Refute it at one input. -/
def breaksWiderWrong : ChangeSpec := { name := "breaksWider", fn := fun _ => fun
  | [d1, d2, d3] => { results := [.lit (.bool false)], args := [d1, d2, d3] }
  | _ => none }
def BreaksWiderWrongFalsely : Prop := breaksWiderRow.holds Try.pinned (OpenSpec.ofChange breaksWiderWrong)

/-- 'colophonlaw24.BreaksWhole': WHATEVER THE INPUT: true; the input reads as it did. -/
def breaksWholeSpec : ChangeSpec := { name := "breaksWhole", fn := fun _ => fun
  | [d1, d2] => { results := [.lit (.bool true)], args := [d1, d2] }
  | _ => none }
def breaksWholeRow : OpenClaim := { program := "ytbeblgjibfoanaa", sum := "33639280de73782f872efde6d8e9dd1f19ba66ea795e55870a6d114d4b7fff60", func := "colophon/colophonlaw24.BreaksWhole", spec := "breaksWhole", apart := false }
def BreaksWholeSaid : Prop := breaksWholeRow.holds Try.pinned (OpenSpec.ofChange breaksWholeSpec)

/-- ITS FALSE NEIGHBOUR: 'it returns false'. Refute it at one input. -/
def breaksWholeWrong : ChangeSpec := { name := "breaksWhole", fn := fun _ => fun
  | [d1, d2] => { results := [.lit (.bool false)], args := [d1, d2] }
  | _ => none }
def BreaksWholeWrongFalsely : Prop := breaksWholeRow.holds Try.pinned (OpenSpec.ofChange breaksWholeWrong)

/-- 'colophonlaw24.BreaksLines': WHATEVER THE INPUT: true; the input reads as it did. -/
def breaksLinesSpec : ChangeSpec := { name := "breaksLines", fn := fun _ => fun
  | [d1, d2, d3] => { results := [.lit (.bool true)], args := [d1, d2, d3] }
  | _ => none }
def breaksLinesRow : OpenClaim := { program := "ytbeblgjibfoanaa", sum := "33639280de73782f872efde6d8e9dd1f19ba66ea795e55870a6d114d4b7fff60", func := "colophon/colophonlaw24.BreaksLines", spec := "breaksLines", apart := false }
def BreaksLinesSaid : Prop := breaksLinesRow.holds Try.pinned (OpenSpec.ofChange breaksLinesSpec)

/-- ITS FALSE NEIGHBOUR: 'it returns false'. Refute it at one input. -/
def breaksLinesWrong : ChangeSpec := { name := "breaksLines", fn := fun _ => fun
  | [d1, d2, d3] => { results := [.lit (.bool false)], args := [d1, d2, d3] }
  | _ => none }
def BreaksLinesWrongFalsely : Prop := breaksLinesRow.holds Try.pinned (OpenSpec.ofChange breaksLinesWrong)

/-- 'colophonlaw24.BreaksCosts': WHATEVER THE INPUT: true; the input reads as it did. -/
def breaksCostsSpec : ChangeSpec := { name := "breaksCosts", fn := fun _ => fun
  | [d1, d2, d3] => { results := [.lit (.bool true)], args := [d1, d2, d3] }
  | _ => none }
def breaksCostsRow : OpenClaim := { program := "ytbeblgjibfoanaa", sum := "33639280de73782f872efde6d8e9dd1f19ba66ea795e55870a6d114d4b7fff60", func := "colophon/colophonlaw24.BreaksCosts", spec := "breaksCosts", apart := false }
def BreaksCostsSaid : Prop := breaksCostsRow.holds Try.pinned (OpenSpec.ofChange breaksCostsSpec)

/-- ITS FALSE NEIGHBOUR: 'it returns false'. Refute it at one input. -/
def breaksCostsWrong : ChangeSpec := { name := "breaksCosts", fn := fun _ => fun
  | [d1, d2, d3] => { results := [.lit (.bool false)], args := [d1, d2, d3] }
  | _ => none }
def BreaksCostsWrongFalsely : Prop := breaksCostsRow.holds Try.pinned (OpenSpec.ofChange breaksCostsWrong)

/-- 'colophonlaw24.BreaksLeast': WHATEVER THE INPUT: true; the input reads as it did. -/
def breaksLeastSpec : ChangeSpec := { name := "breaksLeast", fn := fun _ => fun
  | [d1, d2, d3] => { results := [.lit (.bool true)], args := [d1, d2, d3] }
  | _ => none }
def breaksLeastRow : OpenClaim := { program := "ytbeblgjibfoanaa", sum := "33639280de73782f872efde6d8e9dd1f19ba66ea795e55870a6d114d4b7fff60", func := "colophon/colophonlaw24.BreaksLeast", spec := "breaksLeast", apart := false }
def BreaksLeastSaid : Prop := breaksLeastRow.holds Try.pinned (OpenSpec.ofChange breaksLeastSpec)

/-- ITS FALSE NEIGHBOUR: 'it returns false'. Refute it at one input. -/
def breaksLeastWrong : ChangeSpec := { name := "breaksLeast", fn := fun _ => fun
  | [d1, d2, d3] => { results := [.lit (.bool false)], args := [d1, d2, d3] }
  | _ => none }
def BreaksLeastWrongFalsely : Prop := breaksLeastRow.holds Try.pinned (OpenSpec.ofChange breaksLeastWrong)

/- THE SECOND FORM. 'bulk': how many values and letters a reading holds, each counted each time it is reached (what is shared counts as often as it is met; a slice's spare places count too). A statement '..UptoSaid' is the law's where the arguments, and the package variables that the reading takes, are together of bulk at most 1048576: NARROWER than '..Said'. Prove '..Said' where nothing that the law and all that it calls make is longer than what came in: it says more and counts as full. Else prove '..UptoSaid'. A law counts once. -/
mutual
def uptoBulk {H : Type} : DataW H → Nat
  | .lit (.string bytes) => bytes.length + 1
  | .lit _ => 1
  | .nil => 1
  | .ptr d => uptoBulk d + 1
  | .slice elems spare => uptoBulkAll elems + uptoBulkAll spare + 1
  | .agg parts => uptoBulkAll parts + 1
  | .iface _ d => uptoBulk d + 1
  | .map entries => uptoBulkEntries entries + 1
  | .held _ => 1
def uptoBulkAll {H : Type} : List (DataW H) → Nat
  | [] => 0
  | d :: r => uptoBulk d + uptoBulkAll r
def uptoBulkEntries {H : Type} : List (Lit × DataW H) → Nat
  | [] => 0
  | x :: r => uptoBulkEntry x + uptoBulkEntries r
def uptoBulkEntry {H : Type} : Lit × DataW H → Nat
  | (.string bytes, d) => bytes.length + uptoBulk d + 1
  | (_, d) => uptoBulk d + 1
 end
def uptoSmall : (H : Type) → List (DataW H) → Bool := fun _ ds => decide (uptoBulkAll ds ≤ 1048576)
def OpenSpec.upto (s : _root_.Go.ChangeSpec) : _root_.Go.OpenSpec := { _root_.Go.OpenSpec.ofChange s with cond := some uptoSmall }

/-- 'colophonlaw24.BreaksBest', WHERE WHAT IT READS IS OF BULK AT MOST 1048576: true; the input reads as it did. -/
def breaksBestUptoRow : OpenClaim := { program := "ytbeblgjibfoanaa", sum := "33639280de73782f872efde6d8e9dd1f19ba66ea795e55870a6d114d4b7fff60", func := "colophon/colophonlaw24.BreaksBest", spec := "breaksBest", apart := false, narrowed := true }
def BreaksBestUptoSaid : Prop := breaksBestUptoRow.holds Try.pinned (OpenSpec.upto breaksBestSpec)

/-- 'colophonlaw24.BreaksAll', WHERE WHAT IT READS IS OF BULK AT MOST 1048576: true; the input reads as it did. -/
def breaksAllUptoRow : OpenClaim := { program := "ytbeblgjibfoanaa", sum := "33639280de73782f872efde6d8e9dd1f19ba66ea795e55870a6d114d4b7fff60", func := "colophon/colophonlaw24.BreaksAll", spec := "breaksAll", recurses := true, apart := false, narrowed := true }
def BreaksAllUptoSaid : Prop := breaksAllUptoRow.holds Try.pinned (OpenSpec.upto breaksAllSpec)

/-- 'colophonlaw24.BreaksWider', WHERE WHAT IT READS IS OF BULK AT MOST 1048576: true; the input reads as it did. -/
def breaksWiderUptoRow : OpenClaim := { program := "ytbeblgjibfoanaa", sum := "33639280de73782f872efde6d8e9dd1f19ba66ea795e55870a6d114d4b7fff60", func := "colophon/colophonlaw24.BreaksWider", spec := "breaksWider", apart := false, narrowed := true }
def BreaksWiderUptoSaid : Prop := breaksWiderUptoRow.holds Try.pinned (OpenSpec.upto breaksWiderSpec)

/-- 'colophonlaw24.BreaksWhole', WHERE WHAT IT READS IS OF BULK AT MOST 1048576: true; the input reads as it did. -/
def breaksWholeUptoRow : OpenClaim := { program := "ytbeblgjibfoanaa", sum := "33639280de73782f872efde6d8e9dd1f19ba66ea795e55870a6d114d4b7fff60", func := "colophon/colophonlaw24.BreaksWhole", spec := "breaksWhole", apart := false, narrowed := true }
def BreaksWholeUptoSaid : Prop := breaksWholeUptoRow.holds Try.pinned (OpenSpec.upto breaksWholeSpec)

/-- 'colophonlaw24.BreaksLines', WHERE WHAT IT READS IS OF BULK AT MOST 1048576: true; the input reads as it did. -/
def breaksLinesUptoRow : OpenClaim := { program := "ytbeblgjibfoanaa", sum := "33639280de73782f872efde6d8e9dd1f19ba66ea795e55870a6d114d4b7fff60", func := "colophon/colophonlaw24.BreaksLines", spec := "breaksLines", apart := false, narrowed := true }
def BreaksLinesUptoSaid : Prop := breaksLinesUptoRow.holds Try.pinned (OpenSpec.upto breaksLinesSpec)

/-- 'colophonlaw24.BreaksCosts', WHERE WHAT IT READS IS OF BULK AT MOST 1048576: true; the input reads as it did. -/
def breaksCostsUptoRow : OpenClaim := { program := "ytbeblgjibfoanaa", sum := "33639280de73782f872efde6d8e9dd1f19ba66ea795e55870a6d114d4b7fff60", func := "colophon/colophonlaw24.BreaksCosts", spec := "breaksCosts", apart := false, narrowed := true }
def BreaksCostsUptoSaid : Prop := breaksCostsUptoRow.holds Try.pinned (OpenSpec.upto breaksCostsSpec)

/-- 'colophonlaw24.BreaksLeast', WHERE WHAT IT READS IS OF BULK AT MOST 1048576: true; the input reads as it did. -/
def breaksLeastUptoRow : OpenClaim := { program := "ytbeblgjibfoanaa", sum := "33639280de73782f872efde6d8e9dd1f19ba66ea795e55870a6d114d4b7fff60", func := "colophon/colophonlaw24.BreaksLeast", spec := "breaksLeast", apart := false, narrowed := true }
def BreaksLeastUptoSaid : Prop := breaksLeastUptoRow.holds Try.pinned (OpenSpec.upto breaksLeastSpec)

end Rows
end Go.Proofs.Ytbeblgjibfoanaa
