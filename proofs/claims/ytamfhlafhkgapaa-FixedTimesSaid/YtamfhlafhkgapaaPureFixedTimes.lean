/- FixedTimes: a length times any number is the reference's. No condition beyond the statement's own. -/
import Derived.Test.YtamfhlafhkgapaaFi
namespace Go.Proofs.Ytamfhlafhkgapaa.Pure
set_option linter.unusedSimpArgs false
set_option linter.unusedVariables false
open Go.RowKit Go.Proofs.Ytamfhlafhkgapaa.Px Go.Proofs.YtamfhlafhkgapaaW.PrintWords Go.Proofs.YtamfhlafhkgapaaW.PrintLast Go.Proofs.YtamfhlafhkgapaaW.PrintMore

theorem FixedTimes : colophonlaw01_FixedTimes.Pure := by
  intro a n ha hn
  refine ⟨1, ?_⟩
  unfold colophonlaw01_FixedTimes.f
  rw [Times_spec a n (i64_wf ha) (i64_wf hn), rTimes_spec a n (i64_wf ha) (i64_wf hn) 0]
  simp [wakes_f]

end Go.Proofs.Ytamfhlafhkgapaa.Pure
