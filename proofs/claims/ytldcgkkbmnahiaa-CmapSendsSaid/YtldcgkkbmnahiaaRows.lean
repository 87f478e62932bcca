/-
  No cell of these rows narrows 'for every input' (looked for: loops, veiled, ifaces, maps, wideKeys, modest, calm, conditions, laid).
  DERIVED. THE GIVEN ROWS OF THIS SEAT. 5 by the template 'for every input the law returns true; each argument reads behind the call as it read before'; 0 by the template 'total and deterministic' (their statements: YtldcgkkbmnahiaaTotals.lean).
  GIVEN WITH THE SEED: the statements are not yours to turn. If you find one false, say at which input.
  Laid BY PROGRAM, IN A SANDBOX (cutbox-rows.mjs): the forced cells as the released guide's own fill.sh prints them over the translation 4e7e2abfa26b7a64… (all of the seat's roots in one cut). By AI agents, Wed Nov 11 2026. No macro, syntax, notation, axiom, sorry.
-/
import Derived.Test.YtldcgkkbmnahiaaChecked
import GoSem.Claim
import GoSem.ClaimJoined
import GoSem.ClaimMapViews
import Derived.JoinedTies
import Derived.KernelRfl
namespace Go.Proofs.Ytldcgkkbmnahiaa
/- THE CELL 'sum', in the pinned program and in every row, IS THE sha256 OF THE DUMP (.gsa) THAT YtldcgkkbmnahiaaProg.lean LOADS. Nothing in Lean hashes anything: it is a label: what it is worth is what the hold of that sum in a sandbox is worth. -/
noncomputable def Try.pinned : Pinned := { name := "ytldcgkkbmnahiaa", sum := "4e7e2abfa26b7a6464b5d17d1a384b513b13677f12e3fc4de6a5ee58402aa1ea", checked := Try.checked }
namespace Rows
def none {H : Type} : Left H := { results := [], args := [] }

/-- 'colophonlaw11.CmapReads': WHATEVER THE INPUT: true; the input reads as it did. -/
def cmapReadsSpec : ChangeSpec := { name := "cmapReads", fn := fun _ => fun
  | [d1, d2] => { results := [.lit (.bool true)], args := [d1, d2] }
  | _ => none }
def cmapReadsRow : OpenClaim := { program := "ytldcgkkbmnahiaa", sum := "4e7e2abfa26b7a6464b5d17d1a384b513b13677f12e3fc4de6a5ee58402aa1ea", func := "colophon/colophonlaw11.CmapReads", spec := "cmapReads", unfollowed := true, recurses := true, apart := false }
def CmapReadsSaid : Prop := cmapReadsRow.holds Try.pinned (OpenSpec.ofChange cmapReadsSpec)

/-- ITS FALSE NEIGHBOUR: 'it returns false'. Refute it at one input. -/
def cmapReadsWrong : ChangeSpec := { name := "cmapReads", fn := fun _ => fun
  | [d1, d2] => { results := [.lit (.bool false)], args := [d1, d2] }
  | _ => none }
def CmapReadsWrongFalsely : Prop := cmapReadsRow.holds Try.pinned (OpenSpec.ofChange cmapReadsWrong)

/-- 'colophonlaw11.CmapFinds': WHATEVER THE INPUT: true; the input reads as it did. -/
def cmapFindsSpec : ChangeSpec := { name := "cmapFinds", fn := fun _ => fun
  | [d1, d2, d3] => { results := [.lit (.bool true)], args := [d1, d2, d3] }
  | _ => none }
def cmapFindsRow : OpenClaim := { program := "ytldcgkkbmnahiaa", sum := "4e7e2abfa26b7a6464b5d17d1a384b513b13677f12e3fc4de6a5ee58402aa1ea", func := "colophon/colophonlaw11.CmapFinds", spec := "cmapFinds", unfollowed := true, recurses := true, apart := false }
def CmapFindsSaid : Prop := cmapFindsRow.holds Try.pinned (OpenSpec.ofChange cmapFindsSpec)

/-- ITS FALSE NEIGHBOUR: 'it returns false'. Refute it at one input. -/
def cmapFindsWrong : ChangeSpec := { name := "cmapFinds", fn := fun _ => fun
  | [d1, d2, d3] => { results := [.lit (.bool false)], args := [d1, d2, d3] }
  | _ => none }
def CmapFindsWrongFalsely : Prop := cmapFindsRow.holds Try.pinned (OpenSpec.ofChange cmapFindsWrong)

/-- 'colophonlaw11.CmapBuilds': WHATEVER THE INPUT: true; the input reads as it did. -/
def cmapBuildsSpec : ChangeSpec := { name := "cmapBuilds", fn := fun _ => fun
  | [d1, d2] => { results := [.lit (.bool true)], args := [d1, d2] }
  | _ => none }
def cmapBuildsRow : OpenClaim := { program := "ytldcgkkbmnahiaa", sum := "4e7e2abfa26b7a6464b5d17d1a384b513b13677f12e3fc4de6a5ee58402aa1ea", func := "colophon/colophonlaw11.CmapBuilds", spec := "cmapBuilds", unfollowed := true, recurses := true, apart := false }
def CmapBuildsSaid : Prop := cmapBuildsRow.holds Try.pinned (OpenSpec.ofChange cmapBuildsSpec)

/-- ITS FALSE NEIGHBOUR: 'it returns false'. Refute it at one input. -/
def cmapBuildsWrong : ChangeSpec := { name := "cmapBuilds", fn := fun _ => fun
  | [d1, d2] => { results := [.lit (.bool false)], args := [d1, d2] }
  | _ => none }
def CmapBuildsWrongFalsely : Prop := cmapBuildsRow.holds Try.pinned (OpenSpec.ofChange cmapBuildsWrong)

/-- 'colophonlaw11.CmapBack': WHATEVER THE INPUT: true; the input reads as it did. -/
def cmapBackSpec : ChangeSpec := { name := "cmapBack", fn := fun _ => fun
  | [d] => { results := [.lit (.bool true)], args := [d] }
  | _ => none }
def cmapBackRow : OpenClaim := { program := "ytldcgkkbmnahiaa", sum := "4e7e2abfa26b7a6464b5d17d1a384b513b13677f12e3fc4de6a5ee58402aa1ea", func := "colophon/colophonlaw11.CmapBack", spec := "cmapBack", unfollowed := true, recurses := true, apart := false }
def CmapBackSaid : Prop := cmapBackRow.holds Try.pinned (OpenSpec.ofChange cmapBackSpec)

/-- ITS FALSE NEIGHBOUR: 'it returns false'. Refute it at one input. -/
def cmapBackWrong : ChangeSpec := { name := "cmapBack", fn := fun _ => fun
  | [d] => { results := [.lit (.bool false)], args := [d] }
  | _ => none }
def CmapBackWrongFalsely : Prop := cmapBackRow.holds Try.pinned (OpenSpec.ofChange cmapBackWrong)

/-- 'colophonlaw11.CmapSends': WHATEVER THE INPUT: true; the input reads as it did. -/
def cmapSendsSpec : ChangeSpec := { name := "cmapSends", fn := fun _ => fun
  | [d] => { results := [.lit (.bool true)], args := [d] }
  | _ => none }
def cmapSendsRow : OpenClaim := { program := "ytldcgkkbmnahiaa", sum := "4e7e2abfa26b7a6464b5d17d1a384b513b13677f12e3fc4de6a5ee58402aa1ea", func := "colophon/colophonlaw11.CmapSends", spec := "cmapSends", unfollowed := true, recurses := true, apart := false }
def CmapSendsSaid : Prop := cmapSendsRow.holds Try.pinned (OpenSpec.ofChange cmapSendsSpec)

/-- ITS FALSE NEIGHBOUR: 'it returns false'. Refute it at one input. -/
def cmapSendsWrong : ChangeSpec := { name := "cmapSends", fn := fun _ => fun
  | [d] => { results := [.lit (.bool false)], args := [d] }
  | _ => none }
def CmapSendsWrongFalsely : Prop := cmapSendsRow.holds Try.pinned (OpenSpec.ofChange cmapSendsWrong)

/- THE SECOND FORM. 'bulk': how many values and letters a reading holds, each counted each time it is reached (what is shared counts as often as it is met; a slice's spare places count too). A statement '..UptoSaid' is the law's where the arguments, and the package variables that the reading takes, are together of bulk at most 1048576: NARROWER than '..Said'. Prove '..Said' where nothing that the law and all that it calls make is longer than what came in: it says more and counts as full. Else prove '..UptoSaid'. A law counts once. -/
mutual
def uptoBulk {H : Type} : DataW H → Nat
  | .lit (.string bytes) => bytes.length + 1
  | .lit _ => 1
  | .nil => 1
  | .ptr d => uptoBulk d + 1
  | .slice elems spare => uptoBulkAll elems + uptoBulkAll spare + 1
  | .agg parts => uptoBulkAll parts + 1
  | .iface _ d => uptoBulk d + 1
  | .map entries => uptoBulkEntries entries + 1
  | .held _ => 1
def uptoBulkAll {H : Type} : List (DataW H) → Nat
  | [] => 0
  | d :: r => uptoBulk d + uptoBulkAll r
def uptoBulkEntries {H : Type} : List (Lit × DataW H) → Nat
  | [] => 0
  | x :: r => uptoBulkEntry x + uptoBulkEntries r
def uptoBulkEntry {H : Type} : Lit × DataW H → Nat
  | (.string bytes, d) => bytes.length + uptoBulk d + 1
  | (_, d) => uptoBulk d + 1
 end
def uptoSmall : (H : Type) → List (DataW H) → Bool := fun _ ds => decide (uptoBulkAll ds ≤ 1048576)
def OpenSpec.upto (s : _root_.Go.ChangeSpec) : _root_.Go.OpenSpec := { _root_.Go.OpenSpec.ofChange s with cond := some uptoSmall }

/-- 'colophonlaw11.CmapReads', WHERE WHAT IT READS IS OF BULK AT MOST 1048576: true; the input reads as it did. -/
def cmapReadsUptoRow : OpenClaim := { program := "ytldcgkkbmnahiaa", sum := "4e7e2abfa26b7a6464b5d17d1a384b513b13677f12e3fc4de6a5ee58402aa1ea", func := "colophon/colophonlaw11.CmapReads", spec := "cmapReads", unfollowed := true, recurses := true, apart := false, narrowed := true }
def CmapReadsUptoSaid : Prop := cmapReadsUptoRow.holds Try.pinned (OpenSpec.upto cmapReadsSpec)

/-- 'colophonlaw11.CmapFinds', WHERE WHAT IT READS IS OF BULK AT MOST 1048576: true; the input reads as it did. -/
def cmapFindsUptoRow : OpenClaim := { program := "ytldcgkkbmnahiaa", sum := "4e7e2abfa26b7a6464b5d17d1a384b513b13677f12e3fc4de6a5ee58402aa1ea", func := "colophon/colophonlaw11.CmapFinds", spec := "cmapFinds", unfollowed := true, recurses := true, apart := false, narrowed := true }
def CmapFindsUptoSaid : Prop := cmapFindsUptoRow.holds Try.pinned (OpenSpec.upto cmapFindsSpec)

/-- 'colophonlaw11.CmapBuilds', WHERE WHAT IT READS IS OF BULK AT MOST 1048576: true; the input reads as it did. -/
def cmapBuildsUptoRow : OpenClaim := { program := "ytldcgkkbmnahiaa", sum := "4e7e2abfa26b7a6464b5d17d1a384b513b13677f12e3fc4de6a5ee58402aa1ea", func := "colophon/colophonlaw11.CmapBuilds", spec := "cmapBuilds", unfollowed := true, recurses := true, apart := false, narrowed := true }
def CmapBuildsUptoSaid : Prop := cmapBuildsUptoRow.holds Try.pinned (OpenSpec.upto cmapBuildsSpec)

/-- 'colophonlaw11.CmapBack', WHERE WHAT IT READS IS OF BULK AT MOST 1048576: true; the input reads as it did. -/
def cmapBackUptoRow : OpenClaim := { program := "ytldcgkkbmnahiaa", sum := "4e7e2abfa26b7a6464b5d17d1a384b513b13677f12e3fc4de6a5ee58402aa1ea", func := "colophon/colophonlaw11.CmapBack", spec := "cmapBack", unfollowed := true, recurses := true, apart := false, narrowed := true }
def CmapBackUptoSaid : Prop := cmapBackUptoRow.holds Try.pinned (OpenSpec.upto cmapBackSpec)

/-- 'colophonlaw11.CmapSends', WHERE WHAT IT READS IS OF BULK AT MOST 1048576: true; the input reads as it did. -/
def cmapSendsUptoRow : OpenClaim := { program := "ytldcgkkbmnahiaa", sum := "4e7e2abfa26b7a6464b5d17d1a384b513b13677f12e3fc4de6a5ee58402aa1ea", func := "colophon/colophonlaw11.CmapSends", spec := "cmapSends", unfollowed := true, recurses := true, apart := false, narrowed := true }
def CmapSendsUptoSaid : Prop := cmapSendsUptoRow.holds Try.pinned (OpenSpec.upto cmapSendsSpec)

end Rows
end Go.Proofs.Ytldcgkkbmnahiaa
