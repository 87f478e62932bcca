/-
  No cell of these rows narrows 'for every input' (looked for: loops, veiled, ifaces, maps, wideKeys, modest, calm, conditions, laid).
  DERIVED. THE GIVEN ROWS OF THIS SEAT. 9 by the template 'for every input the law returns true; each argument reads behind the call as it read before'; 0 by the template 'total and deterministic' (their statements: YtamfhlafhkgapaaTotals.lean).
  GIVEN WITH THE SEED: the statements are not yours to turn. If you find one false, say at which input.
  Laid BY PROGRAM, IN A SANDBOX (cutbox-rows.mjs): the forced cells as the released guide's own fill.sh prints them over the translation 965bf62792b39a38… (all of the seat's roots in one cut). By AI agents, Wed Nov 11 2026. No macro, syntax, notation, axiom, sorry.
-/
import Derived.Test.YtamfhlafhkgapaaChecked
import GoSem.Claim
import GoSem.ClaimJoined
import GoSem.ClaimMapViews
import Derived.JoinedTies
import Derived.KernelRfl
namespace Go.Proofs.Ytamfhlafhkgapaa
/- THE CELL 'sum', in the pinned program and in every row, IS THE sha256 OF THE DUMP (.gsa) THAT YtamfhlafhkgapaaProg.lean LOADS. Nothing in Lean hashes anything: it is a label: what it is worth is what the hold of that sum in a sandbox is worth. -/
noncomputable def Try.pinned : Pinned := { name := "ytamfhlafhkgapaa", sum := "965bf62792b39a38fda4871abe0e43cd3160bc4eb28fcbdfeb7ea3536a465398", checked := Try.checked }
namespace Rows
def none {H : Type} : Left H := { results := [], args := [] }

/-- 'colophonlaw01.FixedSums': WHATEVER THE INPUT: true; the input reads as it did. -/
def fixedSumsSpec : ChangeSpec := { name := "fixedSums", fn := fun _ => fun
  | [d1, d2] => { results := [.lit (.bool true)], args := [d1, d2] }
  | _ => none }
def fixedSumsRow : OpenClaim := { program := "ytamfhlafhkgapaa", sum := "965bf62792b39a38fda4871abe0e43cd3160bc4eb28fcbdfeb7ea3536a465398", func := "colophon/colophonlaw01.FixedSums", spec := "fixedSums", apart := false }
def FixedSumsSaid : Prop := fixedSumsRow.holds Try.pinned (OpenSpec.ofChange fixedSumsSpec)

/-- ITS FALSE NEIGHBOUR: 'it returns false'. Refute it at one input. -/
def fixedSumsWrong : ChangeSpec := { name := "fixedSums", fn := fun _ => fun
  | [d1, d2] => { results := [.lit (.bool false)], args := [d1, d2] }
  | _ => none }
def FixedSumsWrongFalsely : Prop := fixedSumsRow.holds Try.pinned (OpenSpec.ofChange fixedSumsWrong)

/-- 'colophonlaw01.FixedBack': WHATEVER THE INPUT: true; the input reads as it did. -/
def fixedBackSpec : ChangeSpec := { name := "fixedBack", fn := fun _ => fun
  | [d1, d2] => { results := [.lit (.bool true)], args := [d1, d2] }
  | _ => none }
def fixedBackRow : OpenClaim := { program := "ytamfhlafhkgapaa", sum := "965bf62792b39a38fda4871abe0e43cd3160bc4eb28fcbdfeb7ea3536a465398", func := "colophon/colophonlaw01.FixedBack", spec := "fixedBack", apart := false }
def FixedBackSaid : Prop := fixedBackRow.holds Try.pinned (OpenSpec.ofChange fixedBackSpec)

/-- ITS FALSE NEIGHBOUR: 'it returns false'. Refute it at one input. -/
def fixedBackWrong : ChangeSpec := { name := "fixedBack", fn := fun _ => fun
  | [d1, d2] => { results := [.lit (.bool false)], args := [d1, d2] }
  | _ => none }
def FixedBackWrongFalsely : Prop := fixedBackRow.holds Try.pinned (OpenSpec.ofChange fixedBackWrong)

/-- 'colophonlaw01.FixedTotals': WHATEVER THE INPUT: true; the input reads as it did. -/
def fixedTotalsSpec : ChangeSpec := { name := "fixedTotals", fn := fun _ => fun
  | [d] => { results := [.lit (.bool true)], args := [d] }
  | _ => none }
def fixedTotalsRow : OpenClaim := { program := "ytamfhlafhkgapaa", sum := "965bf62792b39a38fda4871abe0e43cd3160bc4eb28fcbdfeb7ea3536a465398", func := "colophon/colophonlaw01.FixedTotals", spec := "fixedTotals", apart := false }
def FixedTotalsSaid : Prop := fixedTotalsRow.holds Try.pinned (OpenSpec.ofChange fixedTotalsSpec)

/-- ITS FALSE NEIGHBOUR: 'it returns false'. Refute it at one input. -/
def fixedTotalsWrong : ChangeSpec := { name := "fixedTotals", fn := fun _ => fun
  | [d] => { results := [.lit (.bool false)], args := [d] }
  | _ => none }
def FixedTotalsWrongFalsely : Prop := fixedTotalsRow.holds Try.pinned (OpenSpec.ofChange fixedTotalsWrong)

/-- 'colophonlaw01.FixedTimes': WHATEVER THE INPUT: true; the input reads as it did. -/
def fixedTimesSpec : ChangeSpec := { name := "fixedTimes", fn := fun _ => fun
  | [d1, d2] => { results := [.lit (.bool true)], args := [d1, d2] }
  | _ => none }
def fixedTimesRow : OpenClaim := { program := "ytamfhlafhkgapaa", sum := "965bf62792b39a38fda4871abe0e43cd3160bc4eb28fcbdfeb7ea3536a465398", func := "colophon/colophonlaw01.FixedTimes", spec := "fixedTimes", apart := false }
def FixedTimesSaid : Prop := fixedTimesRow.holds Try.pinned (OpenSpec.ofChange fixedTimesSpec)

/-- ITS FALSE NEIGHBOUR: 'it returns false'. Refute it at one input. -/
def fixedTimesWrong : ChangeSpec := { name := "fixedTimes", fn := fun _ => fun
  | [d1, d2] => { results := [.lit (.bool false)], args := [d1, d2] }
  | _ => none }
def FixedTimesWrongFalsely : Prop := fixedTimesRow.holds Try.pinned (OpenSpec.ofChange fixedTimesWrong)

/-- 'colophonlaw01.FixedFloors': WHATEVER THE INPUT: true; the input reads as it did. -/
def fixedFloorsSpec : ChangeSpec := { name := "fixedFloors", fn := fun _ => fun
  | [d1, d2, d3] => { results := [.lit (.bool true)], args := [d1, d2, d3] }
  | _ => none }
def fixedFloorsRow : OpenClaim := { program := "ytamfhlafhkgapaa", sum := "965bf62792b39a38fda4871abe0e43cd3160bc4eb28fcbdfeb7ea3536a465398", func := "colophon/colophonlaw01.FixedFloors", spec := "fixedFloors", named := ["math/bits.divideError", "math/bits.overflowError"], apart := false }
def FixedFloorsSaid : Prop := fixedFloorsRow.holds Try.pinned (OpenSpec.ofChange fixedFloorsSpec)

/-- ITS FALSE NEIGHBOUR: 'it returns false'. Refute it at one input. -/
def fixedFloorsWrong : ChangeSpec := { name := "fixedFloors", fn := fun _ => fun
  | [d1, d2, d3] => { results := [.lit (.bool false)], args := [d1, d2, d3] }
  | _ => none }
def FixedFloorsWrongFalsely : Prop := fixedFloorsRow.holds Try.pinned (OpenSpec.ofChange fixedFloorsWrong)

/-- 'colophonlaw01.FixedScales': WHATEVER THE INPUT: true; the input reads as it did. -/
def fixedScalesSpec : ChangeSpec := { name := "fixedScales", fn := fun _ => fun
  | [d1, d2, d3] => { results := [.lit (.bool true)], args := [d1, d2, d3] }
  | _ => none }
def fixedScalesRow : OpenClaim := { program := "ytamfhlafhkgapaa", sum := "965bf62792b39a38fda4871abe0e43cd3160bc4eb28fcbdfeb7ea3536a465398", func := "colophon/colophonlaw01.FixedScales", spec := "fixedScales", named := ["math/bits.divideError", "math/bits.overflowError"], apart := false }
def FixedScalesSaid : Prop := fixedScalesRow.holds Try.pinned (OpenSpec.ofChange fixedScalesSpec)

/-- ITS FALSE NEIGHBOUR: 'it returns false'. Refute it at one input. -/
def fixedScalesWrong : ChangeSpec := { name := "fixedScales", fn := fun _ => fun
  | [d1, d2, d3] => { results := [.lit (.bool false)], args := [d1, d2, d3] }
  | _ => none }
def FixedScalesWrongFalsely : Prop := fixedScalesRow.holds Try.pinned (OpenSpec.ofChange fixedScalesWrong)

/-- 'colophonlaw01.FixedNearest': WHATEVER THE INPUT: true; the input reads as it did. -/
def fixedNearestSpec : ChangeSpec := { name := "fixedNearest", fn := fun _ => fun
  | [d1, d2, d3] => { results := [.lit (.bool true)], args := [d1, d2, d3] }
  | _ => none }
def fixedNearestRow : OpenClaim := { program := "ytamfhlafhkgapaa", sum := "965bf62792b39a38fda4871abe0e43cd3160bc4eb28fcbdfeb7ea3536a465398", func := "colophon/colophonlaw01.FixedNearest", spec := "fixedNearest", named := ["math/bits.divideError", "math/bits.overflowError"], apart := false }
def FixedNearestSaid : Prop := fixedNearestRow.holds Try.pinned (OpenSpec.ofChange fixedNearestSpec)

/-- ITS FALSE NEIGHBOUR: 'it returns false'. Refute it at one input. -/
def fixedNearestWrong : ChangeSpec := { name := "fixedNearest", fn := fun _ => fun
  | [d1, d2, d3] => { results := [.lit (.bool false)], args := [d1, d2, d3] }
  | _ => none }
def FixedNearestWrongFalsely : Prop := fixedNearestRow.holds Try.pinned (OpenSpec.ofChange fixedNearestWrong)

/-- 'colophonlaw01.FixedShares': WHATEVER THE INPUT: true; the input reads as it did. -/
def fixedSharesSpec : ChangeSpec := { name := "fixedShares", fn := fun _ => fun
  | [d1, d2] => { results := [.lit (.bool true)], args := [d1, d2] }
  | _ => none }
def fixedSharesRow : OpenClaim := { program := "ytamfhlafhkgapaa", sum := "965bf62792b39a38fda4871abe0e43cd3160bc4eb28fcbdfeb7ea3536a465398", func := "colophon/colophonlaw01.FixedShares", spec := "fixedShares", named := ["math/bits.divideError", "math/bits.overflowError"], apart := false }
def FixedSharesSaid : Prop := fixedSharesRow.holds Try.pinned (OpenSpec.ofChange fixedSharesSpec)

/-- ITS FALSE NEIGHBOUR: 'it returns false'. Refute it at one input. -/
def fixedSharesWrong : ChangeSpec := { name := "fixedShares", fn := fun _ => fun
  | [d1, d2] => { results := [.lit (.bool false)], args := [d1, d2] }
  | _ => none }
def FixedSharesWrongFalsely : Prop := fixedSharesRow.holds Try.pinned (OpenSpec.ofChange fixedSharesWrong)

/-- 'colophonlaw01.FixedWhole': WHATEVER THE INPUT: true; the input reads as it did. -/
def fixedWholeSpec : ChangeSpec := { name := "fixedWhole", fn := fun _ => fun
  | [d1, d2] => { results := [.lit (.bool true)], args := [d1, d2] }
  | _ => none }
def fixedWholeRow : OpenClaim := { program := "ytamfhlafhkgapaa", sum := "965bf62792b39a38fda4871abe0e43cd3160bc4eb28fcbdfeb7ea3536a465398", func := "colophon/colophonlaw01.FixedWhole", spec := "fixedWhole", named := ["math/bits.divideError", "math/bits.overflowError"], apart := false }
def FixedWholeSaid : Prop := fixedWholeRow.holds Try.pinned (OpenSpec.ofChange fixedWholeSpec)

/-- ITS FALSE NEIGHBOUR: 'it returns false'. Refute it at one input. -/
def fixedWholeWrong : ChangeSpec := { name := "fixedWhole", fn := fun _ => fun
  | [d1, d2] => { results := [.lit (.bool false)], args := [d1, d2] }
  | _ => none }
def FixedWholeWrongFalsely : Prop := fixedWholeRow.holds Try.pinned (OpenSpec.ofChange fixedWholeWrong)

/- THE SECOND FORM. 'bulk': how many values and letters a reading holds, each counted each time it is reached (what is shared counts as often as it is met; a slice's spare places count too). A statement '..UptoSaid' is the law's where the arguments, and the package variables that the reading takes, are together of bulk at most 1048576: NARROWER than '..Said'. Prove '..Said' where nothing that the law and all that it calls make is longer than what came in: it says more and counts as full. Else prove '..UptoSaid'. A law counts once. -/
mutual
def uptoBulk {H : Type} : DataW H → Nat
  | .lit (.string bytes) => bytes.length + 1
  | .lit _ => 1
  | .nil => 1
  | .ptr d => uptoBulk d + 1
  | .slice elems spare => uptoBulkAll elems + uptoBulkAll spare + 1
  | .agg parts => uptoBulkAll parts + 1
  | .iface _ d => uptoBulk d + 1
  | .map entries => uptoBulkEntries entries + 1
  | .held _ => 1
def uptoBulkAll {H : Type} : List (DataW H) → Nat
  | [] => 0
  | d :: r => uptoBulk d + uptoBulkAll r
def uptoBulkEntries {H : Type} : List (Lit × DataW H) → Nat
  | [] => 0
  | x :: r => uptoBulkEntry x + uptoBulkEntries r
def uptoBulkEntry {H : Type} : Lit × DataW H → Nat
  | (.string bytes, d) => bytes.length + uptoBulk d + 1
  | (_, d) => uptoBulk d + 1
 end
def uptoSmall : (H : Type) → List (DataW H) → Bool := fun _ ds => decide (uptoBulkAll ds ≤ 1048576)
def OpenSpec.upto (s : _root_.Go.ChangeSpec) : _root_.Go.OpenSpec := { _root_.Go.OpenSpec.ofChange s with cond := some uptoSmall }

/-- 'colophonlaw01.FixedSums', WHERE WHAT IT READS IS OF BULK AT MOST 1048576: true; the input reads as it did. -/
def fixedSumsUptoRow : OpenClaim := { program := "ytamfhlafhkgapaa", sum := "965bf62792b39a38fda4871abe0e43cd3160bc4eb28fcbdfeb7ea3536a465398", func := "colophon/colophonlaw01.FixedSums", spec := "fixedSums", apart := false, narrowed := true }
def FixedSumsUptoSaid : Prop := fixedSumsUptoRow.holds Try.pinned (OpenSpec.upto fixedSumsSpec)

/-- 'colophonlaw01.FixedBack', WHERE WHAT IT READS IS OF BULK AT MOST 1048576: true; the input reads as it did. -/
def fixedBackUptoRow : OpenClaim := { program := "ytamfhlafhkgapaa", sum := "965bf62792b39a38fda4871abe0e43cd3160bc4eb28fcbdfeb7ea3536a465398", func := "colophon/colophonlaw01.FixedBack", spec := "fixedBack", apart := false, narrowed := true }
def FixedBackUptoSaid : Prop := fixedBackUptoRow.holds Try.pinned (OpenSpec.upto fixedBackSpec)

/-- 'colophonlaw01.FixedTotals', WHERE WHAT IT READS IS OF BULK AT MOST 1048576: true; the input reads as it did. -/
def fixedTotalsUptoRow : OpenClaim := { program := "ytamfhlafhkgapaa", sum := "965bf62792b39a38fda4871abe0e43cd3160bc4eb28fcbdfeb7ea3536a465398", func := "colophon/colophonlaw01.FixedTotals", spec := "fixedTotals", apart := false, narrowed := true }
def FixedTotalsUptoSaid : Prop := fixedTotalsUptoRow.holds Try.pinned (OpenSpec.upto fixedTotalsSpec)

/-- 'colophonlaw01.FixedTimes', WHERE WHAT IT READS IS OF BULK AT MOST 1048576: true; the input reads as it did. -/
def fixedTimesUptoRow : OpenClaim := { program := "ytamfhlafhkgapaa", sum := "965bf62792b39a38fda4871abe0e43cd3160bc4eb28fcbdfeb7ea3536a465398", func := "colophon/colophonlaw01.FixedTimes", spec := "fixedTimes", apart := false, narrowed := true }
def FixedTimesUptoSaid : Prop := fixedTimesUptoRow.holds Try.pinned (OpenSpec.upto fixedTimesSpec)

/-- 'colophonlaw01.FixedFloors', WHERE WHAT IT READS IS OF BULK AT MOST 1048576: true; the input reads as it did. -/
def fixedFloorsUptoRow : OpenClaim := { program := "ytamfhlafhkgapaa", sum := "965bf62792b39a38fda4871abe0e43cd3160bc4eb28fcbdfeb7ea3536a465398", func := "colophon/colophonlaw01.FixedFloors", spec := "fixedFloors", named := ["math/bits.divideError", "math/bits.overflowError"], apart := false, narrowed := true }
def FixedFloorsUptoSaid : Prop := fixedFloorsUptoRow.holds Try.pinned (OpenSpec.upto fixedFloorsSpec)

/-- 'colophonlaw01.FixedScales', WHERE WHAT IT READS IS OF BULK AT MOST 1048576: true; the input reads as it did. -/
def fixedScalesUptoRow : OpenClaim := { program := "ytamfhlafhkgapaa", sum := "965bf62792b39a38fda4871abe0e43cd3160bc4eb28fcbdfeb7ea3536a465398", func := "colophon/colophonlaw01.FixedScales", spec := "fixedScales", named := ["math/bits.divideError", "math/bits.overflowError"], apart := false, narrowed := true }
def FixedScalesUptoSaid : Prop := fixedScalesUptoRow.holds Try.pinned (OpenSpec.upto fixedScalesSpec)

/-- 'colophonlaw01.FixedNearest', WHERE WHAT IT READS IS OF BULK AT MOST 1048576: true; the input reads as it did. -/
def fixedNearestUptoRow : OpenClaim := { program := "ytamfhlafhkgapaa", sum := "965bf62792b39a38fda4871abe0e43cd3160bc4eb28fcbdfeb7ea3536a465398", func := "colophon/colophonlaw01.FixedNearest", spec := "fixedNearest", named := ["math/bits.divideError", "math/bits.overflowError"], apart := false, narrowed := true }
def FixedNearestUptoSaid : Prop := fixedNearestUptoRow.holds Try.pinned (OpenSpec.upto fixedNearestSpec)

/-- 'colophonlaw01.FixedShares', WHERE WHAT IT READS IS OF BULK AT MOST 1048576: true; the input reads as it did. -/
def fixedSharesUptoRow : OpenClaim := { program := "ytamfhlafhkgapaa", sum := "965bf62792b39a38fda4871abe0e43cd3160bc4eb28fcbdfeb7ea3536a465398", func := "colophon/colophonlaw01.FixedShares", spec := "fixedShares", named := ["math/bits.divideError", "math/bits.overflowError"], apart := false, narrowed := true }
def FixedSharesUptoSaid : Prop := fixedSharesUptoRow.holds Try.pinned (OpenSpec.upto fixedSharesSpec)

/-- 'colophonlaw01.FixedWhole', WHERE WHAT IT READS IS OF BULK AT MOST 1048576: true; the input reads as it did. -/
def fixedWholeUptoRow : OpenClaim := { program := "ytamfhlafhkgapaa", sum := "965bf62792b39a38fda4871abe0e43cd3160bc4eb28fcbdfeb7ea3536a465398", func := "colophon/colophonlaw01.FixedWhole", spec := "fixedWhole", named := ["math/bits.divideError", "math/bits.overflowError"], apart := false, narrowed := true }
def FixedWholeUptoSaid : Prop := fixedWholeUptoRow.holds Try.pinned (OpenSpec.upto fixedWholeSpec)

end Rows
end Go.Proofs.Ytamfhlafhkgapaa
