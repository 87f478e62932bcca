/- Lemmas on a length times a number, for FixedTimes: no condition beyond what each lemma says. -/
import Derived.Test.YtamfhlafhkgapaaFg
import Derived.Test.YtamfhlafhkgapaaPxx3
namespace Go.Proofs.Ytamfhlafhkgapaa.Px
set_option linter.unusedSimpArgs false
set_option linter.unusedVariables false
open Go.RowKit Go.Proofs.YtamfhlafhkgapaaW.PrintWords Go.Proofs.YtamfhlafhkgapaaW.PrintLast Go.Proofs.YtamfhlafhkgapaaW.PrintMore

theorem Times_spec (a n : Int) (ha : i64ok a) (hn : i64ok n) : fixed_Times.f a n = some (if inn a = true then keep (a * n) true else (0, false)) := by
  unfold fixed_Times.f
  rw [In_f]
  cases h : inn a
  · simp
  · simp only [Option.bind_some, if_true]
    rw [amount_f ha, amount_f hn]; simp only [Option.bind_some]
    have h1 := amt_bd ha; have h2 := amt_bd hn
    have hp := prod_lt ha hn
    have hab := ab_of a n
    rw [Mul64_f _ _ h1.1 (by omega) h2.1 (by omega)]; simp only [Option.bind_some]
    generalize hs : (decide (a < 0) != decide (n < 0)) = s at *
    generalize amt a * amt n = P at *
    by_cases c1 : P / 18446744073709551616 = 0
    · rw [if_pos c1]
      by_cases c2 : P % 18446744073709551616 > 1099511627776
      · rw [if_pos c2, keep_out]
        rw [hab]; split <;> omega
      · rw [if_neg c2, signed_f _ _ (by omega) (by omega)]; simp only [Option.bind_some]
        have e : (if s = true then -(P % 18446744073709551616) else P % 18446744073709551616) = a * n := by
          rw [hab]; split <;> omega
        rw [e]
        have hi : inn (a * n) = true := by rw [inn_iff, hab]; split <;> omega
        simp [keep, hi]
    · rw [if_neg c1, keep_out]
      rw [hab]; split <;> omega
theorem rTimes_spec (a n : Int) (ha : i64ok a) (hn : i64ok n) (k : Nat) : colophonref01_Times.f (k + 1) a n = some (if inn a = true then keep (a * n) true else (0, false)) := by
  unfold colophonref01_Times.f
  rw [rIn_f]
  cases h : inn a
  · simp
  · simp only [Option.bind_some, if_true]
    by_cases hz : a = 0
    · rw [if_pos hz, hz]; simp [keep, inn]
    · rw [if_neg hz, rIn_f]; simp only [Option.bind_some]
      have hI := (inn_iff a).1 h
      have hab := ab_of a n
      have h1 := amt_bd ha; have h2 := amt_bd hn
      have hx1 : 1 ≤ amt a := by unfold amt; split <;> omega
      have hmore : amt n ≤ amt a * amt n := by
        have := Int.mul_le_mul_of_nonneg_right hx1 h2.1
        rw [Int.one_mul] at this; exact this
      cases hn' : inn n
      · simp only [Bool.false_eq_true, if_false]
        rw [keep_out]
        have : 1099511627776 < amt n := by
          have hh : ¬ (inn n = true) := by rw [hn']; decide
          rw [inn_iff] at hh
          unfold amt; split <;> omega
        rw [hab]; split <;> omega
      · simp only [if_true]
        have hN := (inn_iff n).1 hn'
        have hj : colophonref01_Times.j0 (k + 1) a n (amt a) n = some (keep (a * n) true) := by
          rw [colophonref01_Times.j0]
          rw [if_neg (show ¬ amt a = 0 by omega), if_neg (show ¬ amt a = 0 by omega)]
          have hd : 0 ≤ Int.tdiv 1099511627776 (amt a) ∧ Int.tdiv 1099511627776 (amt a) ≤ 1099511627776 := by
            rw [Int.tdiv_eq_ediv_of_nonneg (by omega)]
            exact ⟨Int.ediv_nonneg (by omega) (by omega), Int.ediv_le_self _ (by omega)⟩
          rw [wrap64_small (x := Int.tdiv 1099511627776 (amt a)) (by omega) (by omega)]
          have hcmp : amt n > Int.tdiv 1099511627776 (amt a) ↔ 1099511627776 < amt a * amt n := by
            rw [Int.tdiv_eq_ediv_of_nonneg (by omega)]
            show 1099511627776 / amt a < amt n ↔ _
            rw [Int.ediv_lt_iff_lt_mul (by omega), Int.mul_comm]
          have hw : amt a * amt n ≤ 1099511627776 → wrap64 (a * n) = a * n := by
            intro hh
            have hp := prod_lt ha hn
            refine wrap64_small ?_ ?_ <;> (rw [hab]; split <;> omega)
          have hfin : (if amt n > Int.tdiv 1099511627776 (amt a) then some ((0 : Int), false) else some (wrap64 (a * n), true)) = some (keep (a * n) true) := by
            by_cases hc : amt n > Int.tdiv 1099511627776 (amt a)
            · rw [if_pos hc, keep_out]
              have := hcmp.1 hc
              rw [hab]; split <;> omega
            · rw [if_neg hc]
              have hle : amt a * amt n ≤ 1099511627776 := by
                rcases Int.lt_or_le 1099511627776 (amt a * amt n) with h9 | h9
                · exact absurd (hcmp.2 h9) hc
                · exact h9
              have hp := prod_lt ha hn
              have hi : inn (a * n) = true := by rw [inn_iff, hab]; split <;> omega
              rw [hw hle]; simp [keep, hi]
          by_cases hneg : n < 0
          · rw [if_pos hneg]
            have e : wrap64 (-n) = amt n := by unfold amt; rw [if_pos hneg]; exact wrap64_small (by omega) (by omega)
            rw [e]; exact hfin
          · rw [if_neg hneg]
            have e : n = amt n := by unfold amt; rw [if_neg hneg]
            rw [← e] at hfin; exact hfin
        by_cases hneg : a < 0
        · rw [if_pos hneg]
          have e : wrap64 (-a) = amt a := by unfold amt; rw [if_pos hneg]; exact wrap64_small (by omega) (by omega)
          rw [e]; exact hj
        · rw [if_neg hneg]
          have e : a = amt a := by unfold amt; rw [if_neg hneg]
          rw [← e] at hj; exact hj

end Go.Proofs.Ytamfhlafhkgapaa.Px
