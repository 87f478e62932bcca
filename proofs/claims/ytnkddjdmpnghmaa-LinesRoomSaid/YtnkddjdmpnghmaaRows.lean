/-
  No cell of these rows narrows 'for every input' (looked for: loops, veiled, ifaces, maps, wideKeys, modest, calm, conditions, laid).
  DERIVED. THE GIVEN ROWS OF THIS SEAT. 6 by the template 'for every input the law returns true; each argument reads behind the call as it read before'; 0 by the template 'total and deterministic' (their statements: YtnkddjdmpnghmaaTotals.lean).
  GIVEN WITH THE SEED: the statements are not yours to turn. If you find one false, say at which input.
  Laid BY PROGRAM, IN A SANDBOX (cutbox-rows.mjs): the forced cells as the released guide's own fill.sh prints them over the translation 105c28a97ccfae94… (all of the seat's roots in one cut). By AI agents, Wed Nov 11 2026. No macro, syntax, notation, axiom, sorry.
-/
import Derived.Test.YtnkddjdmpnghmaaChecked
import GoSem.Claim
import GoSem.ClaimJoined
import GoSem.ClaimMapViews
import Derived.JoinedTies
import Derived.KernelRfl
namespace Go.Proofs.Ytnkddjdmpnghmaa
/- THE CELL 'sum', in the pinned program and in every row, IS THE sha256 OF THE DUMP (.gsa) THAT YtnkddjdmpnghmaaProg.lean LOADS. Nothing in Lean hashes anything: it is a label: what it is worth is what the hold of that sum in a sandbox is worth. -/
noncomputable def Try.pinned : Pinned := { name := "ytnkddjdmpnghmaa", sum := "105c28a97ccfae94fb5d0a05fd06459c1cabbbd37fc00fefca8a97a131a1fb00", checked := Try.checked }
namespace Rows
def none {H : Type} : Left H := { results := [], args := [] }

/-- 'colophonlaw25.LinesSets': WHATEVER THE INPUT: true; the input reads as it did. -/
def linesSetsSpec : ChangeSpec := { name := "linesSets", fn := fun _ => fun
  | [d] => { results := [.lit (.bool true)], args := [d] }
  | _ => none }
def linesSetsRow : OpenClaim := { program := "ytnkddjdmpnghmaa", sum := "105c28a97ccfae94fb5d0a05fd06459c1cabbbd37fc00fefca8a97a131a1fb00", func := "colophon/colophonlaw25.LinesSets", spec := "linesSets", unfollowed := true, recurses := true, named := ["math/bits.divideError", "math/bits.overflowError"], apart := false }
def LinesSetsSaid : Prop := linesSetsRow.holds Try.pinned (OpenSpec.ofChange linesSetsSpec)

/-- ITS FALSE NEIGHBOUR: 'it returns false'. Refute it at one input. -/
def linesSetsWrong : ChangeSpec := { name := "linesSets", fn := fun _ => fun
  | [d] => { results := [.lit (.bool false)], args := [d] }
  | _ => none }
def LinesSetsWrongFalsely : Prop := linesSetsRow.holds Try.pinned (OpenSpec.ofChange linesSetsWrong)

/-- 'colophonlaw25.LinesGlue': WHATEVER THE INPUT: true; the input reads as it did. -/
def linesGlueSpec : ChangeSpec := { name := "linesGlue", fn := fun _ => fun
  | [d1, d2] => { results := [.lit (.bool true)], args := [d1, d2] }
  | _ => none }
def linesGlueRow : OpenClaim := { program := "ytnkddjdmpnghmaa", sum := "105c28a97ccfae94fb5d0a05fd06459c1cabbbd37fc00fefca8a97a131a1fb00", func := "colophon/colophonlaw25.LinesGlue", spec := "linesGlue", unfollowed := true, recurses := true, named := ["math/bits.divideError", "math/bits.overflowError"], apart := false }
def LinesGlueSaid : Prop := linesGlueRow.holds Try.pinned (OpenSpec.ofChange linesGlueSpec)

/-- ITS FALSE NEIGHBOUR: 'it returns false'. Refute it at one input. -/
def linesGlueWrong : ChangeSpec := { name := "linesGlue", fn := fun _ => fun
  | [d1, d2] => { results := [.lit (.bool false)], args := [d1, d2] }
  | _ => none }
def LinesGlueWrongFalsely : Prop := linesGlueRow.holds Try.pinned (OpenSpec.ofChange linesGlueWrong)

/-- 'colophonlaw25.LinesJust': WHATEVER THE INPUT: true; the input reads as it did. -/
def linesJustSpec : ChangeSpec := { name := "linesJust", fn := fun _ => fun
  | [d] => { results := [.lit (.bool true)], args := [d] }
  | _ => none }
def linesJustRow : OpenClaim := { program := "ytnkddjdmpnghmaa", sum := "105c28a97ccfae94fb5d0a05fd06459c1cabbbd37fc00fefca8a97a131a1fb00", func := "colophon/colophonlaw25.LinesJust", spec := "linesJust", unfollowed := true, recurses := true, named := ["math/bits.divideError", "math/bits.overflowError"], apart := false }
def LinesJustSaid : Prop := linesJustRow.holds Try.pinned (OpenSpec.ofChange linesJustSpec)

/-- ITS FALSE NEIGHBOUR: 'it returns false'. Refute it at one input. -/
def linesJustWrong : ChangeSpec := { name := "linesJust", fn := fun _ => fun
  | [d] => { results := [.lit (.bool false)], args := [d] }
  | _ => none }
def LinesJustWrongFalsely : Prop := linesJustRow.holds Try.pinned (OpenSpec.ofChange linesJustWrong)

/-- 'colophonlaw25.LinesApart': WHATEVER THE INPUT: true; the input reads as it did. -/
def linesApartSpec : ChangeSpec := { name := "linesApart", fn := fun _ => fun
  | [d] => { results := [.lit (.bool true)], args := [d] }
  | _ => none }
def linesApartRow : OpenClaim := { program := "ytnkddjdmpnghmaa", sum := "105c28a97ccfae94fb5d0a05fd06459c1cabbbd37fc00fefca8a97a131a1fb00", func := "colophon/colophonlaw25.LinesApart", spec := "linesApart", unfollowed := true, recurses := true, named := ["math/bits.divideError", "math/bits.overflowError"], apart := false }
def LinesApartSaid : Prop := linesApartRow.holds Try.pinned (OpenSpec.ofChange linesApartSpec)

/-- ITS FALSE NEIGHBOUR: 'it returns false'. Refute it at one input. -/
def linesApartWrong : ChangeSpec := { name := "linesApart", fn := fun _ => fun
  | [d] => { results := [.lit (.bool false)], args := [d] }
  | _ => none }
def LinesApartWrongFalsely : Prop := linesApartRow.holds Try.pinned (OpenSpec.ofChange linesApartWrong)

/-- 'colophonlaw25.LinesShow': WHATEVER THE INPUT: true; the input reads as it did. -/
def linesShowSpec : ChangeSpec := { name := "linesShow", fn := fun _ => fun
  | [d] => { results := [.lit (.bool true)], args := [d] }
  | _ => none }
def linesShowRow : OpenClaim := { program := "ytnkddjdmpnghmaa", sum := "105c28a97ccfae94fb5d0a05fd06459c1cabbbd37fc00fefca8a97a131a1fb00", func := "colophon/colophonlaw25.LinesShow", spec := "linesShow", unfollowed := true, recurses := true, named := ["math/bits.divideError", "math/bits.overflowError"], apart := false }
def LinesShowSaid : Prop := linesShowRow.holds Try.pinned (OpenSpec.ofChange linesShowSpec)

/-- ITS FALSE NEIGHBOUR: 'it returns false'. Refute it at one input. -/
def linesShowWrong : ChangeSpec := { name := "linesShow", fn := fun _ => fun
  | [d] => { results := [.lit (.bool false)], args := [d] }
  | _ => none }
def LinesShowWrongFalsely : Prop := linesShowRow.holds Try.pinned (OpenSpec.ofChange linesShowWrong)

/-- 'colophonlaw25.LinesRoom': WHATEVER THE INPUT: true; the input reads as it did. -/
def linesRoomSpec : ChangeSpec := { name := "linesRoom", fn := fun _ => fun
  | [d1, d2, d3] => { results := [.lit (.bool true)], args := [d1, d2, d3] }
  | _ => none }
def linesRoomRow : OpenClaim := { program := "ytnkddjdmpnghmaa", sum := "105c28a97ccfae94fb5d0a05fd06459c1cabbbd37fc00fefca8a97a131a1fb00", func := "colophon/colophonlaw25.LinesRoom", spec := "linesRoom", unfollowed := true, recurses := true, named := ["math/bits.divideError", "math/bits.overflowError"], apart := false }
def LinesRoomSaid : Prop := linesRoomRow.holds Try.pinned (OpenSpec.ofChange linesRoomSpec)

/-- ITS FALSE NEIGHBOUR: 'it returns false'. Refute it at one input. -/
def linesRoomWrong : ChangeSpec := { name := "linesRoom", fn := fun _ => fun
  | [d1, d2, d3] => { results := [.lit (.bool false)], args := [d1, d2, d3] }
  | _ => none }
def LinesRoomWrongFalsely : Prop := linesRoomRow.holds Try.pinned (OpenSpec.ofChange linesRoomWrong)

/- THE SECOND FORM. 'bulk': how many values and letters a reading holds, each counted each time it is reached (what is shared counts as often as it is met; a slice's spare places count too). A statement '..UptoSaid' is the law's where the arguments, and the package variables that the reading takes, are together of bulk at most 1048576: NARROWER than '..Said'. Prove '..Said' where nothing that the law and all that it calls make is longer than what came in: it says more and counts as full. Else prove '..UptoSaid'. A law counts once. -/
mutual
def uptoBulk {H : Type} : DataW H → Nat
  | .lit (.string bytes) => bytes.length + 1
  | .lit _ => 1
  | .nil => 1
  | .ptr d => uptoBulk d + 1
  | .slice elems spare => uptoBulkAll elems + uptoBulkAll spare + 1
  | .agg parts => uptoBulkAll parts + 1
  | .iface _ d => uptoBulk d + 1
  | .map entries => uptoBulkEntries entries + 1
  | .held _ => 1
def uptoBulkAll {H : Type} : List (DataW H) → Nat
  | [] => 0
  | d :: r => uptoBulk d + uptoBulkAll r
def uptoBulkEntries {H : Type} : List (Lit × DataW H) → Nat
  | [] => 0
  | x :: r => uptoBulkEntry x + uptoBulkEntries r
def uptoBulkEntry {H : Type} : Lit × DataW H → Nat
  | (.string bytes, d) => bytes.length + uptoBulk d + 1
  | (_, d) => uptoBulk d + 1
 end
def uptoSmall : (H : Type) → List (DataW H) → Bool := fun _ ds => decide (uptoBulkAll ds ≤ 1048576)
def OpenSpec.upto (s : _root_.Go.ChangeSpec) : _root_.Go.OpenSpec := { _root_.Go.OpenSpec.ofChange s with cond := some uptoSmall }

/-- 'colophonlaw25.LinesSets', WHERE WHAT IT READS IS OF BULK AT MOST 1048576: true; the input reads as it did. -/
def linesSetsUptoRow : OpenClaim := { program := "ytnkddjdmpnghmaa", sum := "105c28a97ccfae94fb5d0a05fd06459c1cabbbd37fc00fefca8a97a131a1fb00", func := "colophon/colophonlaw25.LinesSets", spec := "linesSets", unfollowed := true, recurses := true, named := ["math/bits.divideError", "math/bits.overflowError"], apart := false, narrowed := true }
def LinesSetsUptoSaid : Prop := linesSetsUptoRow.holds Try.pinned (OpenSpec.upto linesSetsSpec)

/-- 'colophonlaw25.LinesGlue', WHERE WHAT IT READS IS OF BULK AT MOST 1048576: true; the input reads as it did. -/
def linesGlueUptoRow : OpenClaim := { program := "ytnkddjdmpnghmaa", sum := "105c28a97ccfae94fb5d0a05fd06459c1cabbbd37fc00fefca8a97a131a1fb00", func := "colophon/colophonlaw25.LinesGlue", spec := "linesGlue", unfollowed := true, recurses := true, named := ["math/bits.divideError", "math/bits.overflowError"], apart := false, narrowed := true }
def LinesGlueUptoSaid : Prop := linesGlueUptoRow.holds Try.pinned (OpenSpec.upto linesGlueSpec)

/-- 'colophonlaw25.LinesJust', WHERE WHAT IT READS IS OF BULK AT MOST 1048576: true; the input reads as it did. -/
def linesJustUptoRow : OpenClaim := { program := "ytnkddjdmpnghmaa", sum := "105c28a97ccfae94fb5d0a05fd06459c1cabbbd37fc00fefca8a97a131a1fb00", func := "colophon/colophonlaw25.LinesJust", spec := "linesJust", unfollowed := true, recurses := true, named := ["math/bits.divideError", "math/bits.overflowError"], apart := false, narrowed := true }
def LinesJustUptoSaid : Prop := linesJustUptoRow.holds Try.pinned (OpenSpec.upto linesJustSpec)

/-- 'colophonlaw25.LinesApart', WHERE WHAT IT READS IS OF BULK AT MOST 1048576: true; the input reads as it did. -/
def linesApartUptoRow : OpenClaim := { program := "ytnkddjdmpnghmaa", sum := "105c28a97ccfae94fb5d0a05fd06459c1cabbbd37fc00fefca8a97a131a1fb00", func := "colophon/colophonlaw25.LinesApart", spec := "linesApart", unfollowed := true, recurses := true, named := ["math/bits.divideError", "math/bits.overflowError"], apart := false, narrowed := true }
def LinesApartUptoSaid : Prop := linesApartUptoRow.holds Try.pinned (OpenSpec.upto linesApartSpec)

/-- 'colophonlaw25.LinesShow', WHERE WHAT IT READS IS OF BULK AT MOST 1048576: true; the input reads as it did. -/
def linesShowUptoRow : OpenClaim := { program := "ytnkddjdmpnghmaa", sum := "105c28a97ccfae94fb5d0a05fd06459c1cabbbd37fc00fefca8a97a131a1fb00", func := "colophon/colophonlaw25.LinesShow", spec := "linesShow", unfollowed := true, recurses := true, named := ["math/bits.divideError", "math/bits.overflowError"], apart := false, narrowed := true }
def LinesShowUptoSaid : Prop := linesShowUptoRow.holds Try.pinned (OpenSpec.upto linesShowSpec)

/-- 'colophonlaw25.LinesRoom', WHERE WHAT IT READS IS OF BULK AT MOST 1048576: true; the input reads as it did. -/
def linesRoomUptoRow : OpenClaim := { program := "ytnkddjdmpnghmaa", sum := "105c28a97ccfae94fb5d0a05fd06459c1cabbbd37fc00fefca8a97a131a1fb00", func := "colophon/colophonlaw25.LinesRoom", spec := "linesRoom", unfollowed := true, recurses := true, named := ["math/bits.divideError", "math/bits.overflowError"], apart := false, narrowed := true }
def LinesRoomUptoSaid : Prop := linesRoomUptoRow.holds Try.pinned (OpenSpec.upto linesRoomSpec)

end Rows
end Go.Proofs.Ytnkddjdmpnghmaa
