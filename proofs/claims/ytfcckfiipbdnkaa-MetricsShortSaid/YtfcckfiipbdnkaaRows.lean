/-
  No cell of these rows narrows 'for every input' (looked for: loops, veiled, ifaces, maps, wideKeys, modest, calm, conditions, laid).
  DERIVED. THE GIVEN ROWS OF THIS SEAT. 5 by the template 'for every input the law returns true; each argument reads behind the call as it read before'; 0 by the template 'total and deterministic' (their statements: YtfcckfiipbdnkaaTotals.lean).
  GIVEN WITH THE SEED: the statements are not yours to turn. If you find one false, say at which input.
  Laid BY PROGRAM, IN A SANDBOX (cutbox-rows.mjs): the forced cells as the released guide's own fill.sh prints them over the translation 57c3cfb23432343b… (all of the seat's roots in one cut). By AI agents, Wed Nov 11 2026. No macro, syntax, notation, axiom, sorry.
-/
import Derived.Test.YtfcckfiipbdnkaaChecked
import GoSem.Claim
import GoSem.ClaimJoined
import GoSem.ClaimMapViews
import Derived.JoinedTies
import Derived.KernelRfl
namespace Go.Proofs.Ytfcckfiipbdnkaa
/- THE CELL 'sum', in the pinned program and in every row, IS THE sha256 OF THE DUMP (.gsa) THAT YtfcckfiipbdnkaaProg.lean LOADS. Nothing in Lean hashes anything: it is a label: what it is worth is what the hold of that sum in a sandbox is worth. -/
noncomputable def Try.pinned : Pinned := { name := "ytfcckfiipbdnkaa", sum := "57c3cfb23432343b80509004c3bba8205681581d117818a083454aac2e7d8161", checked := Try.checked }
namespace Rows
def none {H : Type} : Left H := { results := [], args := [] }

/-- 'colophonlaw09.MetricsReads': WHATEVER THE INPUT: true; the input reads as it did. -/
def metricsReadsSpec : ChangeSpec := { name := "metricsReads", fn := fun _ => fun
  | [d] => { results := [.lit (.bool true)], args := [d] }
  | _ => none }
def metricsReadsRow : OpenClaim := { program := "ytfcckfiipbdnkaa", sum := "57c3cfb23432343b80509004c3bba8205681581d117818a083454aac2e7d8161", func := "colophon/colophonlaw09.MetricsReads", spec := "metricsReads", unfollowed := true, recurses := true, named := ["math/bits.divideError", "math/bits.overflowError"], apart := false }
def MetricsReadsSaid : Prop := metricsReadsRow.holds Try.pinned (OpenSpec.ofChange metricsReadsSpec)

/-- ITS FALSE NEIGHBOUR: 'it returns false'. Refute it at one input. -/
def metricsReadsWrong : ChangeSpec := { name := "metricsReads", fn := fun _ => fun
  | [d] => { results := [.lit (.bool false)], args := [d] }
  | _ => none }
def MetricsReadsWrongFalsely : Prop := metricsReadsRow.holds Try.pinned (OpenSpec.ofChange metricsReadsWrong)

/-- 'colophonlaw09.MetricsBuilds': WHATEVER THE INPUT: true; the input reads as it did. -/
def metricsBuildsSpec : ChangeSpec := { name := "metricsBuilds", fn := fun _ => fun
  | [d] => { results := [.lit (.bool true)], args := [d] }
  | _ => none }
def metricsBuildsRow : OpenClaim := { program := "ytfcckfiipbdnkaa", sum := "57c3cfb23432343b80509004c3bba8205681581d117818a083454aac2e7d8161", func := "colophon/colophonlaw09.MetricsBuilds", spec := "metricsBuilds", unfollowed := true, recurses := true, named := ["math/bits.divideError", "math/bits.overflowError"], apart := false }
def MetricsBuildsSaid : Prop := metricsBuildsRow.holds Try.pinned (OpenSpec.ofChange metricsBuildsSpec)

/-- ITS FALSE NEIGHBOUR: 'it returns false'. Refute it at one input. -/
def metricsBuildsWrong : ChangeSpec := { name := "metricsBuilds", fn := fun _ => fun
  | [d] => { results := [.lit (.bool false)], args := [d] }
  | _ => none }
def MetricsBuildsWrongFalsely : Prop := metricsBuildsRow.holds Try.pinned (OpenSpec.ofChange metricsBuildsWrong)

/-- 'colophonlaw09.MetricsLengths': WHATEVER THE INPUT: true; the input reads as it did. -/
def metricsLengthsSpec : ChangeSpec := { name := "metricsLengths", fn := fun _ => fun
  | [d1, d2, d3] => { results := [.lit (.bool true)], args := [d1, d2, d3] }
  | _ => none }
def metricsLengthsRow : OpenClaim := { program := "ytfcckfiipbdnkaa", sum := "57c3cfb23432343b80509004c3bba8205681581d117818a083454aac2e7d8161", func := "colophon/colophonlaw09.MetricsLengths", spec := "metricsLengths", unfollowed := true, recurses := true, named := ["math/bits.divideError", "math/bits.overflowError"], apart := false }
def MetricsLengthsSaid : Prop := metricsLengthsRow.holds Try.pinned (OpenSpec.ofChange metricsLengthsSpec)

/-- ITS FALSE NEIGHBOUR: 'it returns false'. Refute it at one input. -/
def metricsLengthsWrong : ChangeSpec := { name := "metricsLengths", fn := fun _ => fun
  | [d1, d2, d3] => { results := [.lit (.bool false)], args := [d1, d2, d3] }
  | _ => none }
def MetricsLengthsWrongFalsely : Prop := metricsLengthsRow.holds Try.pinned (OpenSpec.ofChange metricsLengthsWrong)

/-- 'colophonlaw09.MetricsBack': WHATEVER THE INPUT: true; the input reads as it did. -/
def metricsBackSpec : ChangeSpec := { name := "metricsBack", fn := fun _ => fun
  | [d] => { results := [.lit (.bool true)], args := [d] }
  | _ => none }
def metricsBackRow : OpenClaim := { program := "ytfcckfiipbdnkaa", sum := "57c3cfb23432343b80509004c3bba8205681581d117818a083454aac2e7d8161", func := "colophon/colophonlaw09.MetricsBack", spec := "metricsBack", unfollowed := true, recurses := true, named := ["math/bits.divideError", "math/bits.overflowError"], apart := false }
def MetricsBackSaid : Prop := metricsBackRow.holds Try.pinned (OpenSpec.ofChange metricsBackSpec)

/-- ITS FALSE NEIGHBOUR: 'it returns false'. Refute it at one input. -/
def metricsBackWrong : ChangeSpec := { name := "metricsBack", fn := fun _ => fun
  | [d] => { results := [.lit (.bool false)], args := [d] }
  | _ => none }
def MetricsBackWrongFalsely : Prop := metricsBackRow.holds Try.pinned (OpenSpec.ofChange metricsBackWrong)

/-- 'colophonlaw09.MetricsShort': WHATEVER THE INPUT: true; the input reads as it did. -/
def metricsShortSpec : ChangeSpec := { name := "metricsShort", fn := fun _ => fun
  | [d1, d2] => { results := [.lit (.bool true)], args := [d1, d2] }
  | _ => none }
def metricsShortRow : OpenClaim := { program := "ytfcckfiipbdnkaa", sum := "57c3cfb23432343b80509004c3bba8205681581d117818a083454aac2e7d8161", func := "colophon/colophonlaw09.MetricsShort", spec := "metricsShort", unfollowed := true, recurses := true, named := ["math/bits.divideError", "math/bits.overflowError"], apart := false }
def MetricsShortSaid : Prop := metricsShortRow.holds Try.pinned (OpenSpec.ofChange metricsShortSpec)

/-- ITS FALSE NEIGHBOUR: 'it returns false'. Refute it at one input. -/
def metricsShortWrong : ChangeSpec := { name := "metricsShort", fn := fun _ => fun
  | [d1, d2] => { results := [.lit (.bool false)], args := [d1, d2] }
  | _ => none }
def MetricsShortWrongFalsely : Prop := metricsShortRow.holds Try.pinned (OpenSpec.ofChange metricsShortWrong)

/- THE SECOND FORM. 'bulk': how many values and letters a reading holds, each counted each time it is reached (what is shared counts as often as it is met; a slice's spare places count too). A statement '..UptoSaid' is the law's where the arguments, and the package variables that the reading takes, are together of bulk at most 1048576: NARROWER than '..Said'. Prove '..Said' where nothing that the law and all that it calls make is longer than what came in: it says more and counts as full. Else prove '..UptoSaid'. A law counts once. -/
mutual
def uptoBulk {H : Type} : DataW H → Nat
  | .lit (.string bytes) => bytes.length + 1
  | .lit _ => 1
  | .nil => 1
  | .ptr d => uptoBulk d + 1
  | .slice elems spare => uptoBulkAll elems + uptoBulkAll spare + 1
  | .agg parts => uptoBulkAll parts + 1
  | .iface _ d => uptoBulk d + 1
  | .map entries => uptoBulkEntries entries + 1
  | .held _ => 1
def uptoBulkAll {H : Type} : List (DataW H) → Nat
  | [] => 0
  | d :: r => uptoBulk d + uptoBulkAll r
def uptoBulkEntries {H : Type} : List (Lit × DataW H) → Nat
  | [] => 0
  | x :: r => uptoBulkEntry x + uptoBulkEntries r
def uptoBulkEntry {H : Type} : Lit × DataW H → Nat
  | (.string bytes, d) => bytes.length + uptoBulk d + 1
  | (_, d) => uptoBulk d + 1
 end
def uptoSmall : (H : Type) → List (DataW H) → Bool := fun _ ds => decide (uptoBulkAll ds ≤ 1048576)
def OpenSpec.upto (s : _root_.Go.ChangeSpec) : _root_.Go.OpenSpec := { _root_.Go.OpenSpec.ofChange s with cond := some uptoSmall }

/-- 'colophonlaw09.MetricsReads', WHERE WHAT IT READS IS OF BULK AT MOST 1048576: true; the input reads as it did. -/
def metricsReadsUptoRow : OpenClaim := { program := "ytfcckfiipbdnkaa", sum := "57c3cfb23432343b80509004c3bba8205681581d117818a083454aac2e7d8161", func := "colophon/colophonlaw09.MetricsReads", spec := "metricsReads", unfollowed := true, recurses := true, named := ["math/bits.divideError", "math/bits.overflowError"], apart := false, narrowed := true }
def MetricsReadsUptoSaid : Prop := metricsReadsUptoRow.holds Try.pinned (OpenSpec.upto metricsReadsSpec)

/-- 'colophonlaw09.MetricsBuilds', WHERE WHAT IT READS IS OF BULK AT MOST 1048576: true; the input reads as it did. -/
def metricsBuildsUptoRow : OpenClaim := { program := "ytfcckfiipbdnkaa", sum := "57c3cfb23432343b80509004c3bba8205681581d117818a083454aac2e7d8161", func := "colophon/colophonlaw09.MetricsBuilds", spec := "metricsBuilds", unfollowed := true, recurses := true, named := ["math/bits.divideError", "math/bits.overflowError"], apart := false, narrowed := true }
def MetricsBuildsUptoSaid : Prop := metricsBuildsUptoRow.holds Try.pinned (OpenSpec.upto metricsBuildsSpec)

/-- 'colophonlaw09.MetricsLengths', WHERE WHAT IT READS IS OF BULK AT MOST 1048576: true; the input reads as it did. -/
def metricsLengthsUptoRow : OpenClaim := { program := "ytfcckfiipbdnkaa", sum := "57c3cfb23432343b80509004c3bba8205681581d117818a083454aac2e7d8161", func := "colophon/colophonlaw09.MetricsLengths", spec := "metricsLengths", unfollowed := true, recurses := true, named := ["math/bits.divideError", "math/bits.overflowError"], apart := false, narrowed := true }
def MetricsLengthsUptoSaid : Prop := metricsLengthsUptoRow.holds Try.pinned (OpenSpec.upto metricsLengthsSpec)

/-- 'colophonlaw09.MetricsBack', WHERE WHAT IT READS IS OF BULK AT MOST 1048576: true; the input reads as it did. -/
def metricsBackUptoRow : OpenClaim := { program := "ytfcckfiipbdnkaa", sum := "57c3cfb23432343b80509004c3bba8205681581d117818a083454aac2e7d8161", func := "colophon/colophonlaw09.MetricsBack", spec := "metricsBack", unfollowed := true, recurses := true, named := ["math/bits.divideError", "math/bits.overflowError"], apart := false, narrowed := true }
def MetricsBackUptoSaid : Prop := metricsBackUptoRow.holds Try.pinned (OpenSpec.upto metricsBackSpec)

/-- 'colophonlaw09.MetricsShort', WHERE WHAT IT READS IS OF BULK AT MOST 1048576: true; the input reads as it did. -/
def metricsShortUptoRow : OpenClaim := { program := "ytfcckfiipbdnkaa", sum := "57c3cfb23432343b80509004c3bba8205681581d117818a083454aac2e7d8161", func := "colophon/colophonlaw09.MetricsShort", spec := "metricsShort", unfollowed := true, recurses := true, named := ["math/bits.divideError", "math/bits.overflowError"], apart := false, narrowed := true }
def MetricsShortUptoSaid : Prop := metricsShortUptoRow.holds Try.pinned (OpenSpec.upto metricsShortSpec)

end Rows
end Go.Proofs.Ytfcckfiipbdnkaa
