/- Lemmas on the functions fixed.In, Add, Sub and their references, for the statements FixedSums and FixedBack: no condition beyond the statements' own. -/
import Derived.Test.YtamfhlafhkgapaaPxx1
namespace Go.Proofs.Ytamfhlafhkgapaa.Px
set_option linter.unusedSimpArgs false
set_option linter.unusedVariables false
open Go.RowKit Go.Proofs.YtamfhlafhkgapaaW.PrintWords Go.Proofs.YtamfhlafhkgapaaW.PrintLast

def inn (x : Int) : Bool := decide (-1099511627776 ≤ x ∧ x ≤ 1099511627776)
def keep (x : Int) (b : Bool) : Int × Bool := if b = true ∧ inn x = true then (x, true) else (0, false)

theorem inn_iff (x : Int) : inn x = true ↔ -1099511627776 ≤ x ∧ x ≤ 1099511627776 := by simp [inn]
theorem In_f (x : Int) : fixed_In.f x = some (inn x) := by
  unfold fixed_In.f inn
  by_cases h : (-1099511627776) ≤ x
  · rw [if_pos h]; simp [h]
  · rw [if_neg h]; simp [h]
theorem rIn_f (x : Int) : colophonref01_In.f x = some (inn x) := by
  unfold colophonref01_In.f inn
  by_cases h : x ≥ (-1099511627776)
  · rw [if_pos h]; simp [show -1099511627776 ≤ x from h]
  · rw [if_neg h]; simp [show ¬ -1099511627776 ≤ x from h]
theorem kept_f (x : Int) (b : Bool) : fixed_kept.f x b = some (keep x b) := by
  unfold fixed_kept.f keep
  cases b <;> simp [In_f]
  cases inn x <;> rfl
theorem told_f (x : Int) : colophonref01_told.f x = some (keep x true) := by
  unfold colophonref01_told.f keep
  simp [rIn_f]
  cases inn x <;> rfl
theorem wrap_add {a b : Int} (ha : inn a = true) (hb : inn b = true) : wrap64 (a + b) = a + b := by
  rw [inn_iff] at ha hb; unfold wrap64; omega
theorem wrap_sub {a b : Int} (ha : inn a = true) (hb : inn b = true) : wrap64 (a - b) = a - b := by
  rw [inn_iff] at ha hb; unfold wrap64; omega
theorem keep_false (x : Int) : keep x false = (0, false) := by simp [keep]
theorem Add_f (a b : Int) : fixed_Add.f a b = some (keep (a + b) (inn a && inn b)) := by
  unfold fixed_Add.f
  rw [In_f, In_f]
  simp only [Option.bind_some, kept_f]
  cases ha : inn a <;> cases hb : inn b <;> simp [keep_false]
  rw [wrap_add ha hb]
theorem rAdd_f (a b : Int) : colophonref01_Add.f a b = some (keep (a + b) (inn a && inn b)) := by
  unfold colophonref01_Add.f
  rw [rIn_f, rIn_f]
  simp only [Option.bind_some, told_f]
  cases ha : inn a <;> cases hb : inn b <;> simp [keep_false]
  rw [wrap_add ha hb]
theorem Sub_f (a b : Int) : fixed_Sub.f a b = some (keep (a - b) (inn a && inn b)) := by
  unfold fixed_Sub.f
  rw [In_f, In_f]
  simp only [Option.bind_some, kept_f]
  cases ha : inn a <;> cases hb : inn b <;> simp [keep_false]
  rw [wrap_sub ha hb]
theorem rSub_f (a b : Int) : colophonref01_Sub.f a b = some (keep (a - b) (inn a && inn b)) := by
  unfold colophonref01_Sub.f
  rw [rIn_f, rIn_f]
  simp only [Option.bind_some, told_f]
  cases ha : inn a <;> cases hb : inn b <;> simp [keep_false]
  rw [wrap_sub ha hb]
theorem wakes_f : colophonlaw01_wakes.f = some true := by
  unfold colophonlaw01_wakes.f
  rw [Add_f]
  have h1 : keep (2 + 3) (inn 2 && inn 3) = (5, true) := by decide
  rw [h1]
  simp only [In_f, Option.bind_some]
  have h2 : inn 1099511627776 = true := by decide
  have h3 : inn 1099511627777 = false := by decide
  simp [h2, h3]
end Go.Proofs.Ytamfhlafhkgapaa.Px
