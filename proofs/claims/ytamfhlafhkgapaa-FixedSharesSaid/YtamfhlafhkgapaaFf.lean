/- Lemmas on the reference's division bit by bit, for the statements of chapter 01: no condition beyond what each lemma says. -/
import Derived.Test.YtamfhlafhkgapaaFe
namespace Go.Proofs.Ytamfhlafhkgapaa.Px
set_option linter.unusedSimpArgs false
set_option linter.unusedVariables false
open Go.RowKit Go.Proofs.YtamfhlafhkgapaaW.PrintWords Go.Proofs.YtamfhlafhkgapaaW.PrintLast Go.Proofs.YtamfhlafhkgapaaW.PrintMore

/-- one bit more of the dividend -/
theorem bit_step {P c b : Int} (hc : 0 < c) (hb0 : 0 ≤ b) (hb : b < 2) :
    (2 * P + b) / c = 2 * (P / c) + (if 2 * (P % c) + b ≥ c then 1 else 0) ∧ (2 * P + b) % c = 2 * (P % c) + b - (if 2 * (P % c) + b ≥ c then c else 0) := by
  have hd := Int.mul_ediv_add_emod P c
  have h0 := Int.emod_nonneg P (by omega : c ≠ 0)
  have h1 := Int.emod_lt_of_pos P hc
  generalize P / c = q at *
  generalize P % c = r at *
  by_cases h : 2 * r + b ≥ c
  · simp only [if_pos h]
    have e : 2 * P + b = (2 * r + b - c) + (2 * q + 1) * c := by rw [← hd]; grind
    rw [e, Int.add_mul_ediv_right _ _ (by omega), Int.add_mul_emod_self_right, Int.ediv_eq_zero_of_lt (by omega) (by omega), Int.emod_eq_of_lt (by omega) (by omega)]
    omega
  · simp only [if_neg h]
    have e : 2 * P + b = (2 * r + b) + (2 * q) * c := by rw [← hd]; grind
    rw [e, Int.add_mul_ediv_right _ _ (by omega), Int.add_mul_emod_self_right, Int.ediv_eq_zero_of_lt (by omega) (by omega), Int.emod_eq_of_lt (by omega) (by omega)]
    omega
theorem half_pow (D : Int) (i : Nat) : D / 2 ^ i = 2 * (D / 2 ^ (i + 1)) + D / 2 ^ i % 2 := by
  have e : D / 2 ^ (i + 1) = D / 2 ^ i / 2 := by
    rw [Int.pow_succ, Int.ediv_ediv_of_nonneg (Int.le_of_lt (Int.pow_pos (by decide)))]
  rw [e]; omega
theorem low_bit {hi lo : Int} (i : Nat) (hi' : i ≤ 63) : lo / 2 ^ i % 2 = (hi * 18446744073709551616 + lo) / 2 ^ i % 2 := by
  have e : hi * 18446744073709551616 + lo = lo + (hi * 2 ^ (63 - i) * 2) * 2 ^ i := by
    have : (18446744073709551616 : Int) = 2 ^ (63 - i) * 2 * 2 ^ i := by
      rw [← Int.pow_succ, ← Int.pow_add, show 63 - i + 1 + i = 64 from by omega]; rfl
    rw [this]; grind
  rw [e, Int.add_mul_ediv_right _ _ (Int.ne_of_gt (Int.pow_pos (by decide)))]
  omega
theorem high_bit {hi lo : Int} (h0 : 0 ≤ lo) (h1 : lo < 18446744073709551616) (i : Nat) (hi' : 64 ≤ i) : hi / 2 ^ (i - 64) = (hi * 18446744073709551616 + lo) / 2 ^ i := by
  have e : (2 : Int) ^ i = 18446744073709551616 * 2 ^ (i - 64) := by
    rw [show (18446744073709551616 : Int) = 2 ^ 64 from rfl, ← Int.pow_add, show 64 + (i - 64) = i from by omega]
  rw [e, ← Int.ediv_ediv_of_nonneg (by omega)]
  congr 1
  omega
theorem shr_u {x : Int} (n : Nat) (hn : n ≤ 64) : shr .u64 x n = x / 2 ^ n := by
  unfold shr; rw [show min (n : Int).toNat (IntKind.bits .u64) = n from by simp [IntKind.bits]; omega]
theorem div_le_of {P c : Int} (hc : 0 < c) (hP : 0 ≤ P) : P / c ≤ P := Int.ediv_le_self c hP

theorem divide_l0 (hi lo c : Int) (h0 : 0 ≤ hi) (h1 : hi < 18446744073709551616) (l0 : 0 ≤ lo) (l1 : lo < 18446744073709551616) (hc : 0 < c) (hc1 : c < 9223372036854775808) :
    ∀ (n : Nat), n ≤ 128 → ∀ (qh ql r : Int), 0 ≤ qh → 0 ≤ ql → ql < 18446744073709551616 → qh * 18446744073709551616 + ql = (hi * 18446744073709551616 + lo) / 2 ^ n / c → r = (hi * 18446744073709551616 + lo) / 2 ^ n % c →
      Ev (fun k => colophonref01_divide.l0 k hi lo c qh ql r ((n : Int) - 1)) ((hi * 18446744073709551616 + lo) / c / 18446744073709551616, (hi * 18446744073709551616 + lo) / c % 18446744073709551616, (hi * 18446744073709551616 + lo) % c) := by
  intro n
  induction n with
  | zero =>
    intro _ qh ql r hq hl hl1 he hr
    refine Ev.step (f := fun _ => some (qh, ql, r)) (fun k => by rw [colophonref01_divide.l0, if_neg (by omega)]) ?_
    simp only [Int.pow_zero, Int.ediv_one] at he hr
    rw [← he, hr]
    rw [show (qh * 18446744073709551616 + ql) / 18446744073709551616 = qh from by omega, show (qh * 18446744073709551616 + ql) % 18446744073709551616 = ql from by omega]
    exact Ev.now _
  | succ n ih =>
    intro hn qh ql r hq hl hl1 he hr
    have hhalf := half_pow (hi * 18446744073709551616 + lo) n
    have hb0 : 0 ≤ (hi * 18446744073709551616 + lo) / 2 ^ n % 2 := by omega
    have hb1 : (hi * 18446744073709551616 + lo) / 2 ^ n % 2 < 2 := by omega
    have hst := bit_step (P := (hi * 18446744073709551616 + lo) / 2 ^ (n + 1)) hc hb0 hb1
    rw [← hhalf] at hst
    have hr0 := Int.emod_nonneg ((hi * 18446744073709551616 + lo) / 2 ^ (n + 1)) (by omega : c ≠ 0)
    have hr1 := Int.emod_lt_of_pos ((hi * 18446744073709551616 + lo) / 2 ^ (n + 1)) hc
    have hD : 0 ≤ hi * 18446744073709551616 + lo := by omega
    have hP1 := Int.ediv_nonneg hD (Int.le_of_lt (show (0 : Int) < 2 ^ n from Int.pow_pos (by decide)))
    have hP2 := Int.ediv_le_self (2 ^ n) hD
    have hP3 := Int.ediv_le_self c hP1
    rw [← he, ← hr] at hst
    rw [← hr] at hr0 hr1
    generalize hb : (hi * 18446744073709551616 + lo) / 2 ^ n % 2 = b at *
    have hbit : (if ((n : Int) + 1 - 1 ≥ 64) then Go.bits .and .u64 (shr .u64 hi (IntKind.u64.wrap (wrap64 (((n : Int) + 1 - 1) - 64)))) 1 else Go.bits .and .u64 (shr .u64 lo (IntKind.u64.wrap (Go.bits .and .i64 ((n : Int) + 1 - 1) 63))) 1) = b := by
      by_cases hc64 : (n : Int) + 1 - 1 ≥ 64
      · rw [if_pos hc64, wrapu, wrap64_small (by omega) (by omega), mod_small (by omega) (by omega), show (n : Int) + 1 - 1 - 64 = ((n - 64 : Nat) : Int) from by omega, shr_u _ (by omega)]
        have hv := high_bit (hi := hi) l0 l1 n (by omega)
        rw [hv, u64_and1 _ hP1 (by rw [← hv]; exact Int.lt_of_le_of_lt (Int.ediv_le_self _ h0) h1), hb]
      · rw [if_neg hc64, i64_and63 _ (by omega) (by omega), wrapu, show ((n : Int) + 1 - 1) % 64 = n from by omega, mod_small (by omega) (by omega), shr_u _ (by omega)]
        rw [u64_and1 _ (Int.ediv_nonneg l0 (Int.le_of_lt (Int.pow_pos (by decide)))) (Int.lt_of_le_of_lt (Int.ediv_le_self _ l0) l1), low_bit (hi := hi) n (by omega), hb]
    have hq2 : qh * 2 < 18446744073709551616 := by
      have := hst.1
      split at this <;> omega
    have e_qh : Go.bits .or .u64 (IntKind.u64.wrap (qh * 2)) (ql / 9223372036854775808) = qh * 2 + ql / 9223372036854775808 := by
      rw [wrapu, mod_small (by omega) (by omega), u64_or1 _ _ (by omega) (by omega) (by omega) (by omega) (by omega)]
    have e_ql : Go.bits .or .u64 (IntKind.u64.wrap (ql * 2)) 1 = ql * 2 % 18446744073709551616 + 1 := by
      rw [wrapu, u64_or1 _ _ (by omega) (by omega) (by omega) (by omega) (by omega)]
    have e_r : Go.bits .or .u64 (IntKind.u64.wrap (r * 2)) b = r * 2 + b := by
      rw [wrapu, mod_small (by omega) (by omega), u64_or1 _ _ (by omega) (by omega) (by omega) (by omega) (by omega)]
    have e_i : wrap64 ((n : Int) + 1 - 1 - 1) = (n : Int) - 1 := by rw [wrap64_small (by omega) (by omega)]; omega
    have e_m : 0 ≤ IntKind.u64.wrap (Go.bits .and .i64 ((n : Int) + 1 - 1) 63) := by rw [wrapu]; omega
    have e_m2 : 0 ≤ IntKind.u64.wrap (wrap64 (((n : Int) + 1 - 1) - 64)) := by rw [wrapu]; omega
    refine Ev.step (f := fun k => if r * 2 + b ≥ c then colophonref01_divide.l0 k hi lo c (qh * 2 + ql / 9223372036854775808) (ql * 2 % 18446744073709551616 + 1) (r * 2 + b - c) ((n : Int) - 1) else colophonref01_divide.l0 k hi lo c (qh * 2 + ql / 9223372036854775808) (ql * 2 % 18446744073709551616) (r * 2 + b) ((n : Int) - 1)) (fun k => ?_) ?_
    · rw [show ((n + 1 : Nat) : Int) - 1 = (n : Int) + 1 - 1 from by omega]
      rw [colophonref01_divide.l0, if_pos (by omega), if_pos e_m]
      by_cases hc64 : (n : Int) + 1 - 1 ≥ 64
      · rw [if_pos hc64] at hbit
        rw [if_pos hc64, if_pos e_m2, hbit, e_r, e_qh, e_ql, e_i, wrapu (ql * 2)]
        by_cases h : r * 2 + b ≥ c
        · rw [if_pos h, if_pos h, wrapu (r * 2 + b - c), mod_small (x := r * 2 + b - c) (by omega) (by omega)]
        · rw [if_neg h, if_neg h]
      · rw [if_neg hc64] at hbit
        rw [if_neg hc64, hbit, e_r, e_qh, e_ql, e_i, wrapu (ql * 2)]
        by_cases h : r * 2 + b ≥ c
        · rw [if_pos h, if_pos h, wrapu (r * 2 + b - c), mod_small (x := r * 2 + b - c) (by omega) (by omega)]
        · rw [if_neg h, if_neg h]
    · by_cases h : r * 2 + b ≥ c
      · simp only [if_pos h]
        rw [if_pos (by omega), if_pos (by omega)] at hst
        exact ih (by omega) _ _ _ (by omega) (by omega) (by omega) (by omega) (by omega)
      · simp only [if_neg h]
        rw [if_neg (by omega), if_neg (by omega)] at hst
        exact ih (by omega) _ _ _ (by omega) (by omega) (by omega) (by omega) (by omega)
theorem divide_ev (hi lo c : Int) (h0 : 0 ≤ hi) (h1 : hi < 18446744073709551616) (l0 : 0 ≤ lo) (l1 : lo < 18446744073709551616) (hc : 0 < c) (hc1 : c < 9223372036854775808) :
    Ev (fun k => colophonref01_divide.f k hi lo c) ((hi * 18446744073709551616 + lo) / c / 18446744073709551616, (hi * 18446744073709551616 + lo) / c % 18446744073709551616, (hi * 18446744073709551616 + lo) % c) := by
  have hD : 0 ≤ hi * 18446744073709551616 + lo := by omega
  have h := divide_l0 hi lo c h0 h1 l0 l1 hc hc1 128 (by omega) 0 0 0 (by omega) (by omega) (by omega) (by
    rw [Int.ediv_eq_zero_of_lt hD (by have : (2 : Int) ^ 128 = 340282366920938463463374607431768211456 := rfl; rw [this]; omega)]; simp) (by
    rw [Int.ediv_eq_zero_of_lt hD (by have : (2 : Int) ^ 128 = 340282366920938463463374607431768211456 := rfl; rw [this]; omega)]; simp)
  exact h

end Go.Proofs.Ytamfhlafhkgapaa.Px
