/- FixedNearest: what is rounded is no farther than half from what it stands for, of numbers up to a million by size. No condition beyond the statement's own. -/
import Derived.Test.YtamfhlafhkgapaaFh
import Derived.Test.YtamfhlafhkgapaaPxx6
namespace Go.Proofs.Ytamfhlafhkgapaa.Pure
set_option linter.unusedSimpArgs false
set_option linter.unusedVariables false
open Go.RowKit Go.Proofs.Ytamfhlafhkgapaa.Px Go.Proofs.YtamfhlafhkgapaaW.PrintWords Go.Proofs.YtamfhlafhkgapaaW.PrintLast Go.Proofs.YtamfhlafhkgapaaW.PrintMore

theorem mul_mil {a b : Int} (ha : -1000000 ≤ a) (ha' : a ≤ 1000000) (hb : -1000000 ≤ b) (hb' : b ≤ 1000000) : -1000000000000 ≤ a * b ∧ a * b ≤ 1000000000000 := by
  have h1 : 0 ≤ amt a ∧ amt a ≤ 1000000 := by unfold amt; split <;> omega
  have h2 : 0 ≤ amt b ∧ amt b ≤ 1000000 := by unfold amt; split <;> omega
  have h3 := Int.mul_le_mul h1.2 h2.2 h2.1 (by omega)
  have h4 : 0 ≤ amt a * amt b := Int.mul_nonneg h1.1 h2.1
  rw [ab_of]; split <;> omega
theorem nearest_j (a b c : Int) (ha : i64ok a) (hb : i64ok b) (hc : i64ok c) : Ev (fun k => colophonlaw01_FixedNearest.j0 k a b c true) true := by
  refine Ev.step (f := fun _ => some true) (fun k => ?_) (Ev.now _)
  rw [colophonlaw01_FixedNearest.j0]; simp [wakes_f]
theorem FixedNearest : colophonlaw01_FixedNearest.Pure := by
  intro a b c ha hb hc
  have ha := i64_wf ha
  have hb := i64_wf hb
  have hc := i64_wf hc
  refine Ev.rounds (g := fun k => colophonlaw01_FixedNearest.f k a b c) ?_
  have hj := nearest_j a b c ha hb hc
  unfold colophonlaw01_FixedNearest.f
  by_cases c1 : a < -1000000
  · simp only [if_pos c1]; exact hj
  simp only [if_neg c1]
  by_cases c2 : a > 1000000
  · simp only [if_pos c2]; exact hj
  simp only [if_neg c2]
  by_cases c3 : b < -1000000
  · simp only [if_pos c3]; exact hj
  simp only [if_neg c3]
  by_cases c4 : b > 1000000
  · simp only [if_pos c4]; exact hj
  simp only [if_neg c4]
  by_cases c5 : c < 1
  · simp only [if_pos c5]; exact hj
  simp only [if_neg c5]
  by_cases c6 : c > 1000000
  · simp only [c6, decide_true]; exact hj
  simp only [c6, decide_false]
  have hP := mul_mil (show -1000000 ≤ a by omega) (by omega) (show -1000000 ≤ b by omega) (by omega)
  have hs := Scale_ev a b c ha hb hc
  have hf := Floor_ev a b c ha hb hc
  have hn := near_pos (P := a * b) (c := c) (by omega)
  have hd := Int.mul_ediv_add_emod (a * b) c
  have hr0 := Int.emod_nonneg (a * b) (by omega : c ≠ 0)
  have hr1 := Int.emod_lt_of_pos (a * b) (show 0 < c by omega)
  have hq : -1000000000000 ≤ a * b / c ∧ a * b / c ≤ 1000000000000 := by
    constructor
    · rw [Int.le_ediv_iff_mul_le (by omega)]; omega
    · have : a * b / c < 1000000000001 := by
        rw [Int.ediv_lt_iff_lt_mul (by omega)]; omega
      omega
  generalize hgq : a * b / c = q at *
  generalize hgr : a * b % c = r at *
  have e_s : scaleS a b c = (q + (if 2 * r ≥ c then 1 else 0), true) := by
    unfold scaleS
    rw [if_neg c5, hn]
    have hi : inn (q + if 2 * r ≥ c then 1 else 0) = true := by rw [inn_iff]; split <;> omega
    simp [keep, hi]
  have e_f : floorS a b c = (q, true) := by
    unfold floorS
    rw [if_neg c5, hgq]
    have hi : inn q = true := by rw [inn_iff]; omega
    simp [keep, hi]
  rw [e_s] at hs
  rw [e_f] at hf
  generalize hab : a * b = P at *
  generalize hcq : c * q = cq at *
  have hcq1 : c * (q + (if 2 * r ≥ c then 1 else 0)) = cq + (if 2 * r ≥ c then c else 0) := by
    split
    · rw [Int.mul_add, hcq, Int.mul_one]
    · rw [Int.add_zero, hcq, Int.add_zero]
  obtain ⟨K1, hs⟩ := hs
  obtain ⟨K2, hf⟩ := hf
  refine ⟨max K1 K2 + 1, fun k hk => ?_⟩
  obtain ⟨m, rfl⟩ : ∃ m, k = m + 1 := ⟨k - 1, by omega⟩
  have hs := hs m (by omega)
  have hf := hf m (by omega)
  simp only at hs hf
  show colophonlaw01_FixedNearest.j0 (m + 1) a b c false = some true
  rw [colophonlaw01_FixedNearest.j0, hs]
  simp only [Bool.false_eq_true, if_false, Option.bind_some]
  rw [hf]
  simp only [Option.bind_some, if_true, wakes_f, hab, hcq, hcq1]
  rw [wrap64_small (x := P) (by omega) (by omega), wrap64_small (x := cq) (by omega) (by omega), wrap64_small (x := P - cq) (by omega) (by omega), wrap64_small (x := -c) (by omega) (by omega), wrap64_small (x := q + 1) (by omega) (by omega)]
  by_cases h2 : 2 * r ≥ c
  · simp only [if_pos h2]
    rw [wrap64_small (x := cq + c) (by omega) (by omega), wrap64_small (x := P - (cq + c)) (by omega) (by omega), wrap64_small (x := 2 * (P - (cq + c))) (by omega) (by omega)]
    rw [if_neg (by omega), if_neg (by omega), if_neg (by omega), if_neg (by omega), if_neg (by omega)]; simp
  · simp only [if_neg h2]
    rw [Int.add_zero, Int.add_zero, wrap64_small (x := cq) (by omega) (by omega), wrap64_small (x := P - cq) (by omega) (by omega), wrap64_small (x := 2 * (P - cq)) (by omega) (by omega)]
    rw [if_neg (by omega), if_neg (by omega), if_neg (by omega), if_neg (by omega), if_pos rfl]

end Go.Proofs.Ytamfhlafhkgapaa.Pure
