/- FixedTotals: the sum of a list of at most 4096 numbers is the reference's, and the list stays. No condition beyond the statement's own. -/
import Derived.Test.YtamfhlafhkgapaaFj
namespace Go.Proofs.Ytamfhlafhkgapaa.Pure
set_option linter.unusedSimpArgs false
set_option linter.unusedVariables false
open Go.RowKit Go.Proofs.Ytamfhlafhkgapaa.Px Go.Proofs.YtamfhlafhkgapaaW.PrintWords Go.Proofs.YtamfhlafhkgapaaW.PrintLast Go.Proofs.YtamfhlafhkgapaaW.PrintMore

theorem FixedTotals : colophonlaw01_FixedTotals.Pure := by
  intro l hm hb _
  refine Ev.rounds (g := fun k => colophonlaw01_FixedTotals.f k l) ?_
  have hI := Ints_f l 4096 (by omega)
  have hlen : (l.take 4096).length ≤ 4096 := by rw [List.length_take]; omega
  refine Ev.congr (f := fun k => (fixed_Sum.f k (l.take 4096)).bind fun bt176 => (colophonref01_Sum.f k (l.take 4096)).bind fun bt181 => (if bt176.1 = bt181.1 then (if (bt176.2 == bt181.2) = true then ((colophonkeep_Same.f k (l.take 4096) (l.take 4096)).bind fun t186 => (if t186 = true then some true else (some false))) else (some false)) else (some false))) (fun k => ?_) ?_
  · unfold colophonlaw01_FixedTotals.f
    have hI2 : colophonkeep_Ints.f l 4096 = some (l.take 4096) := hI
    simp only [hI2, Option.bind_some, wakes_f]
  · refine Ev.bind (Sum_ev _ (by omega)) ?_
    refine Ev.bind (rSum_ev _ (by omega)) ?_
    simp only [if_true, beq_self_eq_true]
    refine Ev.bind (Same_ev _ _ (by omega)) ?_
    simp only [decide_true, if_true]
    exact Ev.now _

end Go.Proofs.Ytamfhlafhkgapaa.Pure
