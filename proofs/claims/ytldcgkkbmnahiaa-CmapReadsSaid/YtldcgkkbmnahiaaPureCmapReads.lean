/- CmapReads: of every table and every number of glyphs the program reads what the document's answer reads. No condition beyond the statement's own. -/
import Derived.Test.YtldcgkkbmnahiaaQd
import Derived.Test.YtldcgkkbmnahiaaPxx12
namespace Go.Proofs.Ytldcgkkbmnahiaa.Pure
set_option linter.unusedSimpArgs false
set_option linter.unusedVariables false
open Go.RowKit Go.Proofs.Ytldcgkkbmnahiaa.Px Go.Proofs.YtldcgkkbmnahiaaW.PrintWords Go.Proofs.YtldcgkkbmnahiaaW.PrintLast

/-- Of every table and every number the program reads what the reference reads. -/
theorem CmapReads : colophonlaw11_CmapReads.Pure := by
  intro t n hs hn
  have hs' : t.size ≤ 140737488351232 := hs
  refine Ev.rounds (r := true) ?_
  by_cases h : (t.size : Int) > 70000
  · refine Ev.congr (f := fun k => (colophonlaw11_wakes.f k).bind fun x => some x) (fun k => by unfold colophonlaw11_CmapReads.f; rw [if_pos h]) ?_
    exact Ev.bind wakes_ev (Ev.now _)
  · have hl := readS_len t n
    refine Ev.congr (f := fun k => (cmap_Read.f k t n).bind fun bt292 => ((colophonref11_Read.f k t n).bind fun bt296 => ((colophonlaw11_same.f k bt292.1 bt296.1).bind fun t300 => (if t300 = true then (if bt292.2 = bt296.2 then ((colophonlaw11_wakes.f k).bind fun t301 => (some t301)) else (some false)) else (some false))))) (fun k => by unfold colophonlaw11_CmapReads.f; rw [if_neg h]) ?_
    refine Ev.bind (Read_ev t n hs') ?_
    refine Ev.bind (refRead_ev t n hs') ?_
    refine Ev.bind (same_ev _ (by omega)) ?_
    simp only [if_true]
    exact Ev.bind wakes_ev (Ev.now _)

end Go.Proofs.Ytldcgkkbmnahiaa.Pure
