/- a list is the same as itself; the law's own first test -/
import Derived.Test.YtldcgkkbmnahiaaQa
import Derived.Test.YtldcgkkbmnahiaaPxx11
namespace Go.Proofs.Ytldcgkkbmnahiaa.Px
set_option linter.unusedSimpArgs false
set_option linter.unusedVariables false
open Go.RowKit Go.Proofs.YtldcgkkbmnahiaaW.PrintWords Go.Proofs.YtldcgkkbmnahiaaW.PrintLast Go.Proofs.YtldcgkkbmnahiaaW.PrintMore

theorem same_l0 (l : List S47) (hl : l.length ≤ 1000000) : ∀ (d : Nat) (i : Int), 0 ≤ i → i + d = l.length → Ev (fun k => colophonlaw11_same.l0 k l l i) true := by
  intro d
  induction d with
  | zero =>
    intro i h0 h1
    refine Ev.step (f := fun _ => some true) (fun k => ?_) (Ev.now _)
    rw [colophonlaw11_same.l0, if_neg (by omega)]
  | succ d ih =>
    intro i h0 h1
    refine Ev.step (fun k => ?_) (ih (i + 1) (by omega) (by omega))
    rw [colophonlaw11_same.l0, if_pos (by omega), if_pos h0, if_pos (by omega), if_neg (by simp), wrap64_small (by omega) (by omega)]
theorem same_ev (l : List S47) (hl : l.length ≤ 1000000) : Ev (fun k => colophonlaw11_same.f k l l) true := by
  refine Ev.congr (fun k => ?_) (same_l0 l hl l.length 0 (by omega) (by omega))
  unfold colophonlaw11_same.f; rw [if_pos rfl]
set_option maxRecDepth 100000 in
theorem wakes_60 : colophonlaw11_wakes.f 60 = some true := by decide +kernel
theorem wakes_ev : Ev (fun k => colophonlaw11_wakes.f k) true := Ev.of (fun k => colophonlaw11_wakes.mono k) wakes_60

end Go.Proofs.Ytldcgkkbmnahiaa.Px
