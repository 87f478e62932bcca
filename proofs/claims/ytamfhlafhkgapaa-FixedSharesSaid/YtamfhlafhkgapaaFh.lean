/- Lemmas on the reference's quotients of products, for the statements of chapter 01: no condition beyond what each lemma says. -/
import Derived.Test.YtamfhlafhkgapaaFg
namespace Go.Proofs.Ytamfhlafhkgapaa.Px
set_option linter.unusedSimpArgs false
set_option linter.unusedVariables false
open Go.RowKit Go.Proofs.YtamfhlafhkgapaaW.PrintWords Go.Proofs.YtamfhlafhkgapaaW.PrintLast Go.Proofs.YtamfhlafhkgapaaW.PrintMore

theorem told_b (x : Int) : ((colophonref01_told.f x).bind fun bt => some (bt.1, bt.2)) = some (keep x true) := by rw [told_f]; rfl
theorem rFloor_ev (a b c : Int) (ha : i64ok a) (hb : i64ok b) (hc : i64ok c) : Ev (fun k => colophonref01_Floor.f k a b c) (floorS a b c) := by
  unfold i64ok at hc
  unfold floorS
  by_cases c1 : c < 1
  · rw [if_pos c1]
    exact Ev.congr (f := fun _ => some (0, false)) (fun k => by unfold colophonref01_Floor.f; rw [if_pos c1]) (Ev.now _)
  · rw [if_neg c1]
    have hq := parts_ev a b c ha hb (by omega) hc.2
    have hp := prod_lt ha hb
    have hab := ab_of a b
    have hn := neg_div (P := amt a * amt b) (c := c) (by omega)
    have hq0 : 0 ≤ amt a * amt b / c := Int.ediv_nonneg hp.1 (by omega)
    have hz : amt a * amt b = 0 → amt a * amt b / c = 0 := by intro h; rw [h]; exact Int.zero_ediv c
    refine Ev.congr (f := fun k => (colophonref01_parts.f k a b c).bind fun bt228 => (if bt228.1 = true then (if bt228.2.2 = 0 then ((colophonref01_told.f (wrap64 (-bt228.2.1))).bind fun bt231 => (some (bt231.1, bt231.2))) else ((colophonref01_told.f (wrap64 (-(wrap64 (bt228.2.1 + 1))))).bind fun bt233 => (some (bt233.1, bt233.2)))) else ((colophonref01_told.f bt228.2.1).bind fun bt235 => (some (bt235.1, bt235.2))))) (fun k => by unfold colophonref01_Floor.f; rw [if_neg c1]) ?_
    refine Ev.bind hq ?_
    generalize hs : (decide (a < 0) != decide (b < 0)) = s at *
    generalize hgq : amt a * amt b / c = q at *
    generalize hgr : amt a * amt b % c = r at *
    generalize amt a * amt b = P at *
    simp only [told_b]
    refine Ev.congr (f := fun _ => some (keep (a * b / c) true)) (fun k => ?_) (Ev.now _)
    cases s
    · rw [if_neg (by decide)] at hab
      rw [hab, hgq]
      simp only [Bool.false_and, Bool.false_eq_true, if_false]
      by_cases h : q ≤ 1099511627776
      · rw [if_pos h]
      · rw [if_neg h, keep_out (by omega), keep_out (by omega)]
    · rw [if_pos rfl] at hab
      rw [hab, hn]
      by_cases hP : P = 0
      · have := hz hP
        subst this
        have hr : r = 0 := by rw [← hgr, hP]; exact Int.zero_emod c
        simp [hP, hr]
      · simp only [hP, ne_eq, not_false_eq_true, decide_true, Bool.and_self, if_true]
        by_cases h : q ≤ 1099511627776
        · rw [if_pos h]
          by_cases hr : r = 0
          · rw [if_pos hr, if_pos hr, wrap64_small (by omega) (by omega)]
          · rw [if_neg hr, if_neg hr, wrap64_small (x := q + 1) (by omega) (by omega), wrap64_small (x := -(q + 1)) (by omega) (by omega)]
            rw [show -(q + 1) = -q - 1 from by omega]
        · rw [if_neg h]
          by_cases hr : r = 0
          · rw [if_pos hr, if_pos hr, wrap64_small (x := -1099511627777) (by omega) (by omega), keep_out (by omega), keep_out (by omega)]
          · rw [if_neg hr, if_neg hr, wrap64_small (x := 1099511627777 + 1) (by omega) (by omega), wrap64_small (x := -(1099511627777 + 1)) (by omega) (by omega), keep_out (by omega), keep_out (by omega)]
theorem rScale_ev (a b c : Int) (ha : i64ok a) (hb : i64ok b) (hc : i64ok c) : Ev (fun k => colophonref01_Scale.f k a b c) (scaleS a b c) := by
  unfold i64ok at hc
  unfold scaleS
  by_cases c1 : c < 1
  · rw [if_pos c1]
    exact Ev.congr (f := fun _ => some (0, false)) (fun k => by unfold colophonref01_Scale.f; rw [if_pos c1]) (Ev.now _)
  · rw [if_neg c1]
    have hq := parts_ev a b c ha hb (by omega) hc.2
    have hp := prod_lt ha hb
    have hab := ab_of a b
    have hpos := near_pos (P := amt a * amt b) (c := c) (by omega)
    have hneg := near_neg (P := amt a * amt b) (c := c) (by omega)
    have hq0 : 0 ≤ amt a * amt b / c := Int.ediv_nonneg hp.1 (by omega)
    have hr0 := Int.emod_nonneg (amt a * amt b) (by omega : c ≠ 0)
    have hr1 := Int.emod_lt_of_pos (amt a * amt b) (show 0 < c by omega)
    have hz : amt a * amt b = 0 → amt a * amt b / c = 0 ∧ amt a * amt b % c = 0 := by intro h; rw [h]; exact ⟨Int.zero_ediv c, Int.zero_emod c⟩
    refine Ev.congr (f := fun k => (colophonref01_parts.f k a b c).bind fun bt252 => (if bt252.1 = true then (if (IntKind.u64.wrap (2 * bt252.2.2)) > (IntKind.u64.wrap (c)) then ((colophonref01_told.f (wrap64 (-(wrap64 (bt252.2.1 + 1))))).bind fun bt255 => (some (bt255.1, bt255.2))) else ((colophonref01_told.f (wrap64 (-bt252.2.1))).bind fun bt257 => (some (bt257.1, bt257.2)))) else (if (IntKind.u64.wrap (2 * bt252.2.2)) ≥ (IntKind.u64.wrap (c)) then (colophonref01_Scale.j0 k (wrap64 (bt252.2.1 + 1))) else (colophonref01_Scale.j0 k bt252.2.1)))) (fun k => by unfold colophonref01_Scale.f; rw [if_neg c1]) ?_
    refine Ev.bind hq ?_
    generalize hs : (decide (a < 0) != decide (b < 0)) = s at *
    generalize hgq : amt a * amt b / c = q at *
    generalize hgr : amt a * amt b % c = r at *
    generalize amt a * amt b = P at *
    simp only [told_b, wrapu]
    rw [mod_small (x := 2 * r) (by omega) (by omega), mod_small (x := c) (by omega) (by omega)]
    have hj : ∀ k x, colophonref01_Scale.j0 (k + 1) x = some (keep x true) := by
      intro k x; rw [colophonref01_Scale.j0]; simp [told_f]
    refine Ev.step (f := fun _ => some (keep ((2 * (a * b) + c) / (2 * c)) true)) (fun k => ?_) (Ev.now _)
    cases s
    · rw [if_neg (by decide)] at hab
      rw [hab, hpos]
      simp only [Bool.false_and, Bool.false_eq_true, if_false, hj]
      by_cases h : q ≤ 1099511627776
      · rw [if_pos h]
        by_cases h2 : 2 * r ≥ c
        · rw [if_pos h2, if_pos h2, wrap64_small (by omega) (by omega)]
        · rw [if_neg h2, if_neg h2, Int.add_zero]
      · rw [if_neg h]
        by_cases h2 : 2 * r ≥ c
        · rw [if_pos h2, if_pos h2, wrap64_small (by omega) (by omega), keep_out (by omega), keep_out (by omega)]
        · rw [if_neg h2, if_neg h2, keep_out (by omega), keep_out (by omega)]
    · rw [if_pos rfl] at hab
      rw [hab, hneg]
      by_cases hP : P = 0
      · obtain ⟨hq1, hr2⟩ := hz hP
        subst hq1 hr2
        simp only [hP, ne_eq, not_true_eq_false, decide_false, Bool.and_false, Bool.false_eq_true, if_false, hj]
        rw [if_pos (show (0 : Int) ≤ 1099511627776 by omega), if_neg (show ¬ 2 * (0 : Int) ≥ c by omega), if_neg (show ¬ 2 * (0 : Int) > c by omega)]; simp
      · simp only [hP, ne_eq, not_false_eq_true, decide_true, Bool.and_self, if_true]
        by_cases h : q ≤ 1099511627776
        · rw [if_pos h]
          by_cases hr : 2 * r > c
          · rw [if_pos hr, if_pos hr, wrap64_small (x := q + 1) (by omega) (by omega), wrap64_small (x := -(q + 1)) (by omega) (by omega)]
          · rw [if_neg hr, if_neg hr, wrap64_small (by omega) (by omega), Int.add_zero]
        · rw [if_neg h]
          by_cases hr : 2 * r > c
          · rw [if_pos hr, if_pos hr, wrap64_small (x := 1099511627777 + 1) (by omega) (by omega), wrap64_small (x := -(1099511627777 + 1)) (by omega) (by omega), keep_out (by omega), keep_out (by omega)]
          · rw [if_neg hr, if_neg hr, wrap64_small (x := -1099511627777) (by omega) (by omega), keep_out (by omega), keep_out (by omega)]

end Go.Proofs.Ytamfhlafhkgapaa.Px
