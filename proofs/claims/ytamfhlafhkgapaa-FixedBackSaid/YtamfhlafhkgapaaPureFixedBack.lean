/- FixedBack: what was added is taken off again, and the order of a sum makes nothing, for any two numbers. No condition beyond the statement's own. -/
import Derived.Test.YtamfhlafhkgapaaFa
namespace Go.Proofs.Ytamfhlafhkgapaa.Pure
set_option linter.unusedSimpArgs false
set_option linter.unusedVariables false
open Go.RowKit Go.Proofs.Ytamfhlafhkgapaa.Px Go.Proofs.YtamfhlafhkgapaaW.PrintWords Go.Proofs.YtamfhlafhkgapaaW.PrintLast

theorem FixedBack : colophonlaw01_FixedBack.Pure := by
  intro a b _ _
  refine ⟨1, ?_⟩
  unfold colophonlaw01_FixedBack.f
  simp only [Add_f, In_f, Option.bind_some]
  have e : keep (b + a) (inn b && inn a) = keep (a + b) (inn a && inn b) := by rw [Int.add_comm, Bool.and_comm]
  rw [e]
  simp only [if_true, bne_self_eq_false, Bool.false_eq_true, if_false]
  by_cases h : (inn a && inn b) = true ∧ inn (a + b) = true
  · obtain ⟨h1, h2⟩ := h
    have hk : keep (a + b) (inn a && inn b) = (a + b, true) := by simp [keep, h1, h2]
    rw [hk]
    simp only [Bool.and_eq_true] at h1
    simp only [h1.1, h1.2, h2, if_true, colophonlaw01_FixedBack.j0, Bool.not_true, Bool.false_eq_true, if_false, Sub_f, Option.bind_some]
    have e2 : a + b - b = a := by omega
    have hk2 : keep (a + b - b) (true && true) = (a, true) := by simp [keep, h1.1, e2]
    rw [hk2]
    have e3 : wrap64 (a + b - a) = b := by
      have h3 := (inn_iff _).1 h1.2
      unfold wrap64; omega
    simp [h1.2, e3, wakes_f]
  · have hk : keep (a + b) (inn a && inn b) = (0, false) := by unfold keep; rw [if_neg h]
    rw [hk]
    simp [colophonlaw01_FixedBack.j0, wakes_f]

end Go.Proofs.Ytamfhlafhkgapaa.Pure
