/- FixedSums: sums and differences of any two numbers are the reference's, and what is in is the same. No condition beyond the statement's own. -/
import Derived.Test.YtamfhlafhkgapaaFa
namespace Go.Proofs.Ytamfhlafhkgapaa.Pure
set_option linter.unusedSimpArgs false
set_option linter.unusedVariables false
open Go.RowKit Go.Proofs.Ytamfhlafhkgapaa.Px Go.Proofs.YtamfhlafhkgapaaW.PrintWords Go.Proofs.YtamfhlafhkgapaaW.PrintLast

theorem FixedSums : colophonlaw01_FixedSums.Pure := by
  intro a b _ _
  unfold colophonlaw01_FixedSums.f
  simp [Add_f, rAdd_f, Sub_f, rSub_f, In_f, rIn_f, wakes_f]

end Go.Proofs.Ytamfhlafhkgapaa.Pure
