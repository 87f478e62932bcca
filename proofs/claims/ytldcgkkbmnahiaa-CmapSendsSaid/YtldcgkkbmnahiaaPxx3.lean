-- Lean text written by this session's own program (wip/tools/myprint.py) for this claim
import Derived.Test.YtldcgkkbmnahiaaPxx0
import Derived.Test.YtldcgkkbmnahiaaTh
namespace Go.Proofs.Ytldcgkkbmnahiaa.Px
open Go.RowKit Go.Proofs.YtldcgkkbmnahiaaW.PrintWords Go.Proofs.YtldcgkkbmnahiaaW.PrintLast Go.Proofs.YtldcgkkbmnahiaaW.PrintMore
attribute [local go_sem] pw_max2 pw_min2 max_two min_two max_three min_three max_four min_four   -- for this text's walks alone
set_option linter.unusedVariables false
set_option linter.unusedSimpArgs false

/-! ### cmap_Read: function 9 -/
--@import Derived.Test.YtldcgkkbmnahiaaTh
def cmap_Read.f (k : Nat) (a0 : ByteArray) (a1 : Int) : Option (List (S47) × Int) := readF k a0 a1
theorem cmap_Read.mono (a0 : ByteArray) (a1 : Int) (k : Nat) : LeO (cmap_Read.f k a0 a1) (cmap_Read.f (k + 1) a0 a1) := readF_mono a0 a1 k
theorem cmap_Read.calls (k : Nat) (a0 : ByteArray) (a1 : Int) (r1 : List (S47)) (r2 : Int) (w : World) (h : cmap_Read.f k a0 a1 = some (r1, r2)) :
  Calls Try.prog 9 #[.string a0, .int .i64 a1] w fun e w' => ∃ v0_ : Value, e = .returned (.tuple #[v0_, .int .i64 r2]) ∧ Kd.R k47 47 w' w.heap.size (fun _ => True) v0_ r1 ∧ Below w.heap.size w w' := readF_calls k a0 a1 r1 r2 w h

end Go.Proofs.Ytldcgkkbmnahiaa.Px
