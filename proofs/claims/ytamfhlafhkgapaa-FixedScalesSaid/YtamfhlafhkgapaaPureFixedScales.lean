/- FixedScales: quotients of products, rounded to the nearest, are the reference's, for any three numbers. No condition beyond the statement's own. -/
import Derived.Test.YtamfhlafhkgapaaFh
import Derived.Test.YtamfhlafhkgapaaPxx6
namespace Go.Proofs.Ytamfhlafhkgapaa.Pure
set_option linter.unusedSimpArgs false
set_option linter.unusedVariables false
open Go.RowKit Go.Proofs.Ytamfhlafhkgapaa.Px Go.Proofs.YtamfhlafhkgapaaW.PrintWords Go.Proofs.YtamfhlafhkgapaaW.PrintLast Go.Proofs.YtamfhlafhkgapaaW.PrintMore

theorem FixedScales : colophonlaw01_FixedScales.Pure := by
  intro a b c ha hb hc
  refine Ev.rounds (g := fun k => colophonlaw01_FixedScales.f k a b c) ?_
  unfold colophonlaw01_FixedScales.f
  refine Ev.bind (Scale_ev a b c (i64_wf ha) (i64_wf hb) (i64_wf hc)) ?_
  refine Ev.bind (rScale_ev a b c (i64_wf ha) (i64_wf hb) (i64_wf hc)) ?_
  simp only [if_true, beq_self_eq_true, wakes_f, Option.bind_some]
  exact Ev.now _

end Go.Proofs.Ytamfhlafhkgapaa.Pure
