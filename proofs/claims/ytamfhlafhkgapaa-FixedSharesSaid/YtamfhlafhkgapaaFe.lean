/- Lemmas on the long division of two words by one, for the statements of chapter 01: the quotient and the rest are the true ones, where the high word is below the divisor. -/
import Derived.Test.YtamfhlafhkgapaaFd
namespace Go.Proofs.Ytamfhlafhkgapaa.Px
set_option linter.unusedSimpArgs false
set_option linter.unusedVariables false
open Go.RowKit Go.Proofs.YtamfhlafhkgapaaW.PrintWords Go.Proofs.YtamfhlafhkgapaaW.PrintLast Go.Proofs.YtamfhlafhkgapaaW.PrintMore

theorem tdiv_ed {a b : Int} (h : 0 ≤ a) : Int.tdiv a b = a / b := Int.tdiv_eq_ediv_of_nonneg h
theorem tmod_em {a b : Int} (h : 0 ≤ a) : Int.tmod a b = a % b := Int.tmod_eq_emod_of_nonneg h
/-- the parts of the shifted dividend -/
theorem shift_parts {hi lo : Int} {s : Nat} (h0 : 0 ≤ lo) (h1 : lo < 18446744073709551616) (hs : s ≤ 63) :
    (hi * 18446744073709551616 + lo) * 2 ^ s = ((hi * 2 ^ s + lo / 2 ^ (64 - s)) * 4294967296 + lo * 2 ^ s % 18446744073709551616 / 4294967296) * 4294967296 + lo * 2 ^ s % 18446744073709551616 % 4294967296 := by
  have hw : (18446744073709551616 : Int) = 2 ^ (64 - s) * 2 ^ s := by
    rw [← Int.pow_add, show 64 - s + s = 64 from by omega]; rfl
  have e1 : lo * 2 ^ s / 18446744073709551616 = lo / 2 ^ (64 - s) := by
    rw [hw]
    exact Int.mul_ediv_mul_of_pos_left _ _ (Int.pow_pos (by decide))
  have e2 := Int.mul_ediv_add_emod (lo * 2 ^ s) 18446744073709551616
  rw [e1] at e2
  have e3 : (hi * 18446744073709551616 + lo) * 2 ^ s = hi * 2 ^ s * 18446744073709551616 + lo * 2 ^ s := by grind
  rw [e3]
  generalize hi * 2 ^ s = H at *
  generalize lo * 2 ^ s = L at *
  generalize lo / 2 ^ (64 - s) = K at *
  omega
theorem shr_low {lo : Int} {s : Nat} (h0 : 0 ≤ lo) (h1 : lo < 18446744073709551616) (hs : s ≤ 63) : 0 ≤ lo / 2 ^ (64 - s) ∧ lo / 2 ^ (64 - s) < 2 ^ s := by
  constructor
  · exact Int.ediv_nonneg h0 (Int.le_of_lt (Int.pow_pos (by decide)))
  · rw [Int.ediv_lt_iff_lt_mul (Int.pow_pos (by decide)), ← Int.pow_add, show s + (64 - s) = 64 from by omega]; omega
theorem pow_le63 {s : Nat} (hs : s ≤ 63) : (1 : Int) ≤ 2 ^ s ∧ (2 : Int) ^ s ≤ 9223372036854775808 := by
  have h1 : (2 : Nat) ^ s ≤ 9223372036854775808 := Nat.le_trans (Nat.pow_le_pow_right (by decide) hs) (by decide)
  have h2 : 1 ≤ (2 : Nat) ^ s := Nat.one_le_two_pow
  have h3 : (((2 : Nat) ^ s : Nat) : Int) = (2 : Int) ^ s := by rw [Int.natCast_pow]; rfl
  rw [← h3]
  generalize (2 : Nat) ^ s = n at *
  omega
/-- the two digits of the whole -/
theorem two_digits {U n1 n0 Y : Int} (hp : 0 < Y) : (U * 4294967296 + n1) / Y * 4294967296 + ((U * 4294967296 + n1) % Y * 4294967296 + n0) / Y = ((U * 4294967296 + n1) * 4294967296 + n0) / Y ∧ ((U * 4294967296 + n1) % Y * 4294967296 + n0) % Y = ((U * 4294967296 + n1) * 4294967296 + n0) % Y := by
  have hd := Int.mul_ediv_add_emod (U * 4294967296 + n1) Y
  generalize (U * 4294967296 + n1) / Y = q at *
  generalize (U * 4294967296 + n1) % Y = r at *
  have e : (U * 4294967296 + n1) * 4294967296 + n0 = (r * 4294967296 + n0) + q * 4294967296 * Y := by rw [← hd]; grind
  rw [e]
  constructor
  · rw [Int.add_mul_ediv_right _ _ (by omega)]; omega
  · rw [Int.add_mul_emod_self_right]
theorem Div64_ev (hi lo y : Int) (h0 : 0 ≤ hi) (hlo0 : 0 ≤ lo) (hlo : lo < 18446744073709551616) (hy : y < 18446744073709551616) (hlt : hi < y) :
    Ev (fun k => bits_Div64.f k hi lo y) ((hi * 18446744073709551616 + lo) / y, (hi * 18446744073709551616 + lo) % y) := by
  have hy0 : 0 < y := by omega
  by_cases hz : hi = 0
  · subst hz
    refine Ev.congr (f := fun _ => some (lo / y, lo % y)) (fun k => ?_) ?_
    · unfold bits_Div64.f
      rw [if_neg (by omega), if_neg (by omega), if_pos rfl, tdiv_ed hlo0, tmod_em hlo0, wrapu]
      rw [mod_small (Int.ediv_nonneg hlo0 (by omega)) (by have := Int.ediv_le_self y hlo0; omega)]
    · rw [Int.zero_mul, Int.zero_add]; exact Ev.now _
  · obtain ⟨s, hz0, hs, hY0, hY1⟩ := LeadingZeros_f 0 y hy0 hy
    have hlz : ∀ k, bits_LeadingZeros64.f (k + 1) y = some (s : Int) := by
      intro k
      exact at_rounds (g := fun k => bits_LeadingZeros64.f k y) (fun k => bits_LeadingZeros64.mono y k) (show 0 + 1 ≤ k + 1 by omega) hz0
    have hp := pow_le63 hs
    have hsl := shr_low hlo0 hlo hs
    have hparts := shift_parts (hi := hi) hlo0 hlo hs
    have hmul : hi * 2 ^ s < y * 2 ^ s := Int.mul_lt_mul_of_pos_right hlt (by omega)
    have hmul' : hi * 2 ^ s + 2 ^ s ≤ y * 2 ^ s := by
      have := Int.mul_le_mul_of_nonneg_right (show hi + 1 ≤ y by omega) (show (0 : Int) ≤ 2 ^ s by omega)
      rw [Int.add_mul, Int.one_mul] at this; exact this
    have hh0 : 0 ≤ hi * 2 ^ s := Int.mul_nonneg h0 (by omega)
    have hmod : (hi * 2 ^ s) % 2 ^ s = 0 := Int.mul_emod_left _ _
    have hyq : (y * 2 ^ s * 1) = y * 2 ^ s := Int.mul_one _
    -- the words, as they are computed
    have e_s : IntKind.u64.wrap (s : Int) = s := by rw [wrapu]; omega
    have e_c : IntKind.u64.wrap (64 - (s : Int)) = ((64 - s : Nat) : Int) := by rw [wrapu]; omega
    have e_y : shl .u64 y s = y * 2 ^ s := by
      unfold shl; rw [show min (s : Int).toNat (IntKind.bits .u64) = s from by simp [IntKind.bits]; omega, wrapu]
      exact mod_small (by omega) (by omega)
    have e_h : shl .u64 hi s = hi * 2 ^ s := by
      unfold shl; rw [show min (s : Int).toNat (IntKind.bits .u64) = s from by simp [IntKind.bits]; omega, wrapu]
      exact mod_small (by omega) (by omega)
    have e_l : shl .u64 lo s = lo * 2 ^ s % 18446744073709551616 := by
      unfold shl; rw [show min (s : Int).toNat (IntKind.bits .u64) = s from by simp [IntKind.bits]; omega, wrapu]
    have e_r : shr .u64 lo ((64 - s : Nat) : Int) = lo / 2 ^ (64 - s) := by
      unfold shr; rw [show min ((64 - s : Nat) : Int).toNat (IntKind.bits .u64) = 64 - s from by simp [IntKind.bits]]
    have hfull : ((hi * 2 ^ s + lo / 2 ^ (64 - s)) * 4294967296 + lo * 2 ^ s % 18446744073709551616 / 4294967296) / (y * 2 ^ s) * 4294967296 + (((hi * 2 ^ s + lo / 2 ^ (64 - s)) * 4294967296 + lo * 2 ^ s % 18446744073709551616 / 4294967296) % (y * 2 ^ s) * 4294967296 + lo * 2 ^ s % 18446744073709551616 % 4294967296) / (y * 2 ^ s) = (hi * 18446744073709551616 + lo) / y ∧ (((hi * 2 ^ s + lo / 2 ^ (64 - s)) * 4294967296 + lo * 2 ^ s % 18446744073709551616 / 4294967296) % (y * 2 ^ s) * 4294967296 + lo * 2 ^ s % 18446744073709551616 % 4294967296) % (y * 2 ^ s) / 2 ^ s = (hi * 18446744073709551616 + lo) % y := by
      have h := two_digits (U := hi * 2 ^ s + lo / 2 ^ (64 - s)) (n1 := lo * 2 ^ s % 18446744073709551616 / 4294967296) (n0 := lo * 2 ^ s % 18446744073709551616 % 4294967296) (Y := y * 2 ^ s) (by omega)
      rw [h.1, h.2, ← hparts]
      constructor
      · exact Int.mul_ediv_mul_of_pos_left _ _ (by omega)
      · rw [Int.mul_comm _ (2 ^ s), Int.mul_comm y (2 ^ s), Int.mul_emod_mul_of_pos _ _ (by omega)]
        exact Int.mul_ediv_cancel_left _ (by omega)
    have hor : Go.bits .or .u64 (hi * 2 ^ s) (lo / 2 ^ (64 - s)) = hi * 2 ^ s + lo / 2 ^ (64 - s) :=
      bits_join .u64 64 (by decide) wraps_u64 s _ _ hh0 hmod (by omega) hsl.1 hsl.2 (by omega)
    refine Ev.step (f := fun k => bits_Div64.l0 (k + 1) (y * 2 ^ s) s (y * 2 ^ s / 4294967296) (y * 2 ^ s % 4294967296) (hi * 2 ^ s + lo / 2 ^ (64 - s)) (lo * 2 ^ s % 18446744073709551616 / 4294967296) (lo * 2 ^ s % 18446744073709551616 % 4294967296) ((hi * 2 ^ s + lo / 2 ^ (64 - s)) / (y * 2 ^ s / 4294967296)) ((hi * 2 ^ s + lo / 2 ^ (64 - s)) % (y * 2 ^ s / 4294967296))) (fun k => ?_) ?_
    · unfold bits_Div64.f
      rw [if_neg (by omega), if_neg (by omega), if_neg hz, hlz k]
      simp only [Option.bind_some]
      rw [e_s, e_c, e_y, e_h, e_l, e_r, hor, u64_and32 (y * 2 ^ s) (by omega) (by omega), u64_and32 (lo * 2 ^ s % 18446744073709551616) (by omega) (by omega)]
      generalize hU : hi * 2 ^ s + lo / 2 ^ (64 - s) = U at *
      generalize hYY : y * 2 ^ s = Y at *
      rw [if_pos (by omega), if_pos (by omega), if_neg (by omega), tdiv_ed (by omega)]
      have hq := Int.ediv_nonneg (show 0 ≤ U by omega) (show 0 ≤ Y / 4294967296 by omega)
      have hq2 := Int.ediv_le_self (Y / 4294967296) (show 0 ≤ U by omega)
      have hmr := Int.mul_ediv_add_emod U (Y / 4294967296)
      have hmr0 := Int.emod_nonneg U (show Y / 4294967296 ≠ 0 by omega)
      have hmr1 := Int.emod_lt_of_pos U (show 0 < Y / 4294967296 by omega)
      have hcm : U / (Y / 4294967296) * (Y / 4294967296) = Y / 4294967296 * (U / (Y / 4294967296)) := Int.mul_comm _ _
      rw [wrapu (U / (Y / 4294967296)), mod_small hq (by omega), wrapu, wrapu, hcm]
      have e9 : (U - Y / 4294967296 * (U / (Y / 4294967296)) % 18446744073709551616) % 18446744073709551616 = U % (Y / 4294967296) := by
        generalize Y / 4294967296 * (U / (Y / 4294967296)) = t at *
        generalize U % (Y / 4294967296) = rr at *
        omega
      rw [e9]
    · generalize hU : hi * 2 ^ s + lo / 2 ^ (64 - s) = U at *
      generalize hYY : y * 2 ^ s = Y at *
      generalize hn1 : lo * 2 ^ s % 18446744073709551616 / 4294967296 = n1 at *
      generalize hn0 : lo * 2 ^ s % 18446744073709551616 % 4294967296 = n0 at *
      have hmr := Int.mul_ediv_add_emod U (Y / 4294967296)
      have hmr0 := Int.emod_nonneg U (show Y / 4294967296 ≠ 0 by omega)
      have hmr1 := Int.emod_lt_of_pos U (show 0 < Y / 4294967296 by omega)
      have hn1a : 0 ≤ n1 ∧ n1 < 4294967296 := by omega
      have hn0a : 0 ≤ n0 ∧ n0 < 4294967296 := by omega
      have hN0 := Int.emod_nonneg (U * 4294967296 + n1) (show Y ≠ 0 by omega)
      have hN1 := Int.emod_lt_of_pos (U * 4294967296 + n1) (show 0 < Y by omega)
      have hYs : Y = Y / 4294967296 * 4294967296 + Y % 4294967296 := by omega
      have hQ := dig_lt (u := U) (un1 := n1) (Y := Y) (by omega) (by omega) hn1a.2
      have hQ0 := dig_nonneg (u := U) (un1 := n1) (Y := Y) (by omega) (by omega) hn1a.1
      have hend2 : Ev (fun k => bits_Div64.j2 k Y s (Y / 4294967296) (Y % 4294967296) U n1 n0 ((U * 4294967296 + n1) / Y)) ((hi * 18446744073709551616 + lo) / y, (hi * 18446744073709551616 + lo) % y) := by
        generalize hR : (U * 4294967296 + n1) % Y = R at *
        have hmq := Int.mul_ediv_add_emod R (Y / 4294967296)
        have hmq0 := Int.emod_nonneg R (show Y / 4294967296 ≠ 0 by omega)
        have hmq1 := Int.emod_lt_of_pos R (show 0 < Y / 4294967296 by omega)
        have hq := Int.ediv_nonneg (show 0 ≤ R by omega) (show 0 ≤ Y / 4294967296 by omega)
        have hq2 := Int.ediv_le_self (Y / 4294967296) (show 0 ≤ R by omega)
        have hdm := Int.mul_ediv_add_emod (U * 4294967296 + n1) Y
        rw [hR] at hdm
        have hcm : (U * 4294967296 + n1) / Y * Y = Y * ((U * 4294967296 + n1) / Y) := Int.mul_comm _ _
        have hcm2 : R / (Y / 4294967296) * (Y / 4294967296) = Y / 4294967296 * (R / (Y / 4294967296)) := Int.mul_comm _ _
        refine Ev.step (f := fun k => bits_Div64.l1 k Y s (Y / 4294967296) (Y % 4294967296) n0 ((U * 4294967296 + n1) / Y) (R % (Y / 4294967296)) R (R / (Y / 4294967296))) (fun k => ?_) ?_
        · rw [bits_Div64.j2, if_neg (by omega)]
          simp only [wrapu]
          rw [hcm]
          have e1 : ((U * 4294967296 % 18446744073709551616 + n1) % 18446744073709551616 - Y * ((U * 4294967296 + n1) / Y) % 18446744073709551616) % 18446744073709551616 = R := by
            generalize Y * ((U * 4294967296 + n1) / Y) = t at *
            omega
          rw [e1, tdiv_ed (by omega), mod_small hq (by omega), hcm2]
          have e9 : (R - Y / 4294967296 * (R / (Y / 4294967296)) % 18446744073709551616) % 18446744073709551616 = R % (Y / 4294967296) := by
            generalize Y / 4294967296 * (R / (Y / 4294967296)) = t at *
            generalize R % (Y / 4294967296) = rr at *
            omega
          rw [e9]
        · have hl := Div_l1 (u := R) (yn1 := Y / 4294967296) (yn0 := Y % 4294967296) (un1 := n0) (Y := Y) s ((U * 4294967296 + n1) / Y) hYs (by omega) (by omega) (by omega) (by omega) (by omega) (by omega) hn0a.1 hn0a.2 hQ0 hQ hs 2 (R / (Y / 4294967296)) (R % (Y / 4294967296)) (by omega) (by
              rw [← Int.lt_add_one_iff, Int.ediv_lt_iff_lt_mul (by omega)]
              generalize R / (Y / 4294967296) = q at *
              generalize hrr : R % (Y / 4294967296) = rr at *
              have e : (q + 1) * Y = ((Y / 4294967296) * q + Y / 4294967296) * 4294967296 + (q + 1) * (Y % 4294967296) := by
                have e3 : (q + 1) * Y = (q + 1) * (Y / 4294967296 * 4294967296 + Y % 4294967296) := by rw [← hYs]
                rw [e3]; grind
              have h9 : 0 ≤ (q + 1) * (Y % 4294967296) := Int.mul_nonneg (by omega) (by omega)
              rw [e]; omega) (dig_guess hYs (by omega) (by omega) (by omega)) (by rw [hcm2]; omega) hmq0 (by omega)
          rw [hfull.1, hfull.2] at hl
          exact hl
      have hl0 := Div_l0 (u := U) (yn1 := Y / 4294967296) (yn0 := Y % 4294967296) (un1 := n1) (Y := Y) s n0 hYs (by omega) (by omega) (by omega) (by omega) (by omega) (by omega) hn1a.1 hn1a.2 _ hend2 2 (U / (Y / 4294967296)) (U % (Y / 4294967296)) (by omega) (by
              rw [← Int.lt_add_one_iff, Int.ediv_lt_iff_lt_mul (by omega)]
              generalize U / (Y / 4294967296) = q at *
              generalize hrr : U % (Y / 4294967296) = rr at *
              have e : (q + 1) * Y = ((Y / 4294967296) * q + Y / 4294967296) * 4294967296 + (q + 1) * (Y % 4294967296) := by
                have e3 : (q + 1) * Y = (q + 1) * (Y / 4294967296 * 4294967296 + Y % 4294967296) := by rw [← hYs]
                rw [e3]; grind
              have hq0 : 0 ≤ q := by
                rcases Int.lt_or_le q 0 with h | h
                · have := Int.mul_le_mul_of_nonneg_left (show q ≤ -1 by omega) (show 0 ≤ Y / 4294967296 by omega)
                  omega
                · exact h
              have h9 : 0 ≤ (q + 1) * (Y % 4294967296) := Int.mul_nonneg (by omega) (by omega)
              rw [e]; omega) (dig_guess hYs (by omega) (by omega) (by omega)) (by rw [Int.mul_comm]; omega) hmr0 (by omega)
      obtain ⟨K, hK⟩ := hl0
      exact ⟨K, fun k hk => hK (k + 1) (by omega)⟩

end Go.Proofs.Ytamfhlafhkgapaa.Px
