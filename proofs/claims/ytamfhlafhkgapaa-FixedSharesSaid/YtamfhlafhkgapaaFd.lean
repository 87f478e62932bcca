/- Lemmas on the long division of two words by one (the two correcting loops), for the statements of chapter 01: no condition beyond what each lemma says. -/
import Derived.Test.YtamfhlafhkgapaaFc
namespace Go.Proofs.Ytamfhlafhkgapaa.Px
set_option linter.unusedSimpArgs false
set_option linter.unusedVariables false
open Go.RowKit Go.Proofs.YtamfhlafhkgapaaW.PrintWords Go.Proofs.YtamfhlafhkgapaaW.PrintLast Go.Proofs.YtamfhlafhkgapaaW.PrintMore

/-- Knuth's digit: what the quotient's guess is held against. -/
theorem dig_hi {u yn1 yn0 un1 q rh Y : Int} (hY : Y = yn1 * 4294967296 + yn0) (hp : 0 < Y) (hq : q * yn1 + rh = u) (h : 4294967296 * rh + un1 < q * yn0) : (u * 4294967296 + un1) / Y < q := by
  rw [Int.ediv_lt_iff_lt_mul hp, hY]
  have e : q * (yn1 * 4294967296 + yn0) = (q * yn1) * 4294967296 + q * yn0 := by grind
  rw [e]; omega
theorem dig_lo {u yn1 yn0 un1 q rh Y : Int} (hY : Y = yn1 * 4294967296 + yn0) (hp : 0 < Y) (hq : q * yn1 + rh = u) (h : q * yn0 ≤ 4294967296 * rh + un1) : q ≤ (u * 4294967296 + un1) / Y := by
  rw [Int.le_ediv_iff_mul_le hp, hY]
  have e : q * (yn1 * 4294967296 + yn0) = (q * yn1) * 4294967296 + q * yn0 := by grind
  rw [e]; omega
theorem dig_lt {u un1 Y : Int} (hp : 0 < Y) (hu : u < Y) (h1 : un1 < 4294967296) : (u * 4294967296 + un1) / Y < 4294967296 := by
  rw [Int.ediv_lt_iff_lt_mul hp]
  have : (u + 1) * 4294967296 ≤ Y * 4294967296 := Int.mul_le_mul_of_nonneg_right (by omega) (by omega)
  have e : (u + 1) * 4294967296 = u * 4294967296 + 4294967296 := by grind
  rw [e] at this
  rw [Int.mul_comm 4294967296 Y]
  omega
/-- the first guess is at most two too great -/
theorem dig_guess {u yn1 yn0 Y : Int} (hY : Y = yn1 * 4294967296 + yn0) (h1 : 2147483648 ≤ yn1) (h0 : yn0 < 4294967296) (hu : u < Y) : u / yn1 ≤ 4294967297 := by
  have : u / yn1 < 4294967298 := by
    rw [Int.ediv_lt_iff_lt_mul (by omega)]
    omega
  omega
theorem mulq_bd {q y : Int} (hq0 : 0 ≤ q) (hq : q ≤ 4294967297) (hy0 : 0 ≤ y) (hy : y < 4294967296) : 0 ≤ q * y ∧ q * y ≤ 18446744073709551615 := by
  constructor
  · exact Int.mul_nonneg hq0 hy0
  · have := Int.mul_le_mul hq (show y ≤ 4294967295 by omega) hy0 (by omega : (0 : Int) ≤ 4294967297)
    omega
theorem dig_nonneg {u un1 Y : Int} (hp : 0 < Y) (hu0 : 0 ≤ u) (h1 : 0 ≤ un1) : 0 ≤ (u * 4294967296 + un1) / Y := Int.ediv_nonneg (by omega) (by omega)

/-- the first loop ends at the digit -/
theorem Div_l0 {u yn1 yn0 un1 Y : Int} (s un0 : Int) (hY : Y = yn1 * 4294967296 + yn0) (h1 : 2147483648 ≤ yn1) (h1' : yn1 < 4294967296) (h00 : 0 ≤ yn0) (h0 : yn0 < 4294967296) (hu0 : 0 ≤ u) (hu : u < Y) (hn0 : 0 ≤ un1) (hn : un1 < 4294967296) (r : Int × Int)
    (hend : Ev (fun k => bits_Div64.j2 k Y s yn1 yn0 u un1 un0 ((u * 4294967296 + un1) / Y)) r) :
    ∀ (n : Nat) (q rh : Int), 4294967296 ≤ rh + n * 2147483648 → (u * 4294967296 + un1) / Y ≤ q → q ≤ 4294967297 → q * yn1 + rh = u → 0 ≤ rh → rh < 4294967296 →
      Ev (fun k => bits_Div64.l0 k Y s yn1 yn0 u un1 un0 q rh) r := by
  have hp : 0 < Y := by omega
  have hQ := dig_lt hp hu hn
  have hQ0 := dig_nonneg hp hu0 hn0
  intro n
  induction n with
  | zero => intro q rh h; omega
  | succ n ih =>
    intro q rh hm hq hq' he hr0 hr
    have hb := mulq_bd (by omega) hq' h00 h0
    -- what follows where the guess is too great
    have down : (u * 4294967296 + un1) / Y < q → Ev (fun k => bits_Div64.j1 k Y s yn1 yn0 u un1 un0 q rh true) r := by
      intro hlt
      refine Ev.step (f := fun k => if (IntKind.u64.wrap (rh + yn1)) ≥ 4294967296 then (bits_Div64.j2 k Y s yn1 yn0 u un1 un0 (IntKind.u64.wrap (q - 1))) else (bits_Div64.l0 k Y s yn1 yn0 u un1 un0 (IntKind.u64.wrap (q - 1)) (IntKind.u64.wrap (rh + yn1)))) (fun k => by rw [bits_Div64.j1]; rfl) ?_
      rw [wrapu, wrapu, mod_small (x := rh + yn1) (by omega) (by omega), mod_small (x := q - 1) (by omega) (by omega)]
      have he' : (q - 1) * yn1 + (rh + yn1) = u := by
        have : (q - 1) * yn1 = q * yn1 - yn1 := by grind
        rw [this]; omega
      by_cases hc : rh + yn1 ≥ 4294967296
      · simp only [if_pos hc]
        have hle : q - 1 ≤ (u * 4294967296 + un1) / Y := by
          refine dig_lo hY hp he' ?_
          have := Int.mul_le_mul (show q - 1 ≤ 4294967296 by omega) (show yn0 ≤ 4294967295 by omega) h00 (by omega : (0 : Int) ≤ 4294967296)
          omega
        have : q - 1 = (u * 4294967296 + un1) / Y := by omega
        rw [this]; exact hend
      · simp only [if_neg hc]
        exact ih (q - 1) (rh + yn1) (by omega) (by omega) (by omega) he' (by omega) (by omega)
    refine Ev.step (f := fun k => if q ≥ 4294967296 then (bits_Div64.j1 k Y s yn1 yn0 u un1 un0 q rh true) else (bits_Div64.j1 k Y s yn1 yn0 u un1 un0 q rh (decide ((IntKind.u64.wrap (q * yn0)) > (IntKind.u64.wrap ((IntKind.u64.wrap (4294967296 * rh)) + un1)))))) (fun k => by rw [bits_Div64.l0]) ?_
    by_cases hc : q ≥ 4294967296
    · simp only [if_pos hc]
      exact down (by omega)
    · simp only [if_neg hc]
      rw [wrapu, wrapu, wrapu, mod_small hb.1 (by omega), mod_small (x := 4294967296 * rh) (by omega) (by omega), mod_small (x := 4294967296 * rh + un1) (by omega) (by omega)]
      by_cases hd : q * yn0 > 4294967296 * rh + un1
      · simp only [hd, decide_true]
        exact down (dig_hi hY hp he hd)
      · simp only [hd, decide_false]
        refine Ev.step (f := fun k => bits_Div64.j2 k Y s yn1 yn0 u un1 un0 q) (fun k => by rw [bits_Div64.j1]; rfl) ?_
        have : q = (u * 4294967296 + un1) / Y := by
          have := dig_lo hY hp he (by omega : q * yn0 ≤ 4294967296 * rh + un1)
          omega
        rw [this]; exact hend
/-- the second loop ends at the digit, and the division with it -/
theorem Div_l1 {u yn1 yn0 un1 Y : Int} (s : Nat) (q1 : Int) (hY : Y = yn1 * 4294967296 + yn0) (h1 : 2147483648 ≤ yn1) (h1' : yn1 < 4294967296) (h00 : 0 ≤ yn0) (h0 : yn0 < 4294967296) (hu0 : 0 ≤ u) (hu : u < Y) (hn0 : 0 ≤ un1) (hn : un1 < 4294967296) (hq10 : 0 ≤ q1) (hq1 : q1 < 4294967296) (hs : s ≤ 63) :
    ∀ (n : Nat) (q rh : Int), 4294967296 ≤ rh + n * 2147483648 → (u * 4294967296 + un1) / Y ≤ q → q ≤ 4294967297 → q * yn1 + rh = u → 0 ≤ rh → rh < 4294967296 →
      Ev (fun k => bits_Div64.l1 k Y s yn1 yn0 un1 q1 rh u q) (q1 * 4294967296 + (u * 4294967296 + un1) / Y, (u * 4294967296 + un1) % Y / 2 ^ s) := by
  have hp : 0 < Y := by omega
  have hQ := dig_lt hp hu hn
  have hQ0 := dig_nonneg hp hu0 hn0
  have hfin : (IntKind.u64.wrap ((IntKind.u64.wrap (q1 * 4294967296)) + (u * 4294967296 + un1) / Y), shr .u64 (IntKind.u64.wrap ((IntKind.u64.wrap ((IntKind.u64.wrap (u * 4294967296)) + un1)) - (IntKind.u64.wrap ((u * 4294967296 + un1) / Y * Y)))) s) = (q1 * 4294967296 + (u * 4294967296 + un1) / Y, (u * 4294967296 + un1) % Y / 2 ^ s) := by
    have hr0 := Int.emod_nonneg (u * 4294967296 + un1) (by omega : Y ≠ 0)
    have hr1 := Int.emod_lt_of_pos (u * 4294967296 + un1) hp
    have hd := Int.mul_ediv_add_emod (u * 4294967296 + un1) Y
    have hc : (u * 4294967296 + un1) / Y * Y = Y * ((u * 4294967296 + un1) / Y) := Int.mul_comm _ _
    unfold shr
    rw [show min (s : Int).toNat (IntKind.bits .u64) = s from by simp [IntKind.bits]; omega]
    simp only [wrapu]
    rw [hc]
    generalize Y * ((u * 4294967296 + un1) / Y) = yq at *
    generalize hN : (u * 4294967296 + un1) / Y = Q at *
    generalize hR : (u * 4294967296 + un1) % Y = R at *
    have e1 : (q1 * 4294967296 % 18446744073709551616 + Q) % 18446744073709551616 = q1 * 4294967296 + Q := by omega
    have e2 : ((u * 4294967296 % 18446744073709551616 + un1) % 18446744073709551616 - yq % 18446744073709551616) % 18446744073709551616 = R := by omega
    rw [e1, e2]
  intro n
  induction n with
  | zero => intro q rh h; omega
  | succ n ih =>
    intro q rh hm hq hq' he hr0 hr
    have hb := mulq_bd (by omega) hq' h00 h0
    have down : (u * 4294967296 + un1) / Y < q → Ev (fun k => bits_Div64.j4 k Y s yn1 yn0 un1 q1 rh u q true) (q1 * 4294967296 + (u * 4294967296 + un1) / Y, (u * 4294967296 + un1) % Y / 2 ^ s) := by
      intro hlt
      refine Ev.step (f := fun k => if (IntKind.u64.wrap (rh + yn1)) ≥ 4294967296 then (if 0 ≤ (s : Int) then (some (IntKind.u64.wrap ((IntKind.u64.wrap (q1 * 4294967296)) + (IntKind.u64.wrap (q - 1))), shr .u64 (IntKind.u64.wrap ((IntKind.u64.wrap ((IntKind.u64.wrap (u * 4294967296)) + un1)) - (IntKind.u64.wrap ((IntKind.u64.wrap (q - 1)) * Y)))) s)) else (none)) else (bits_Div64.l1 k Y s yn1 yn0 un1 q1 (IntKind.u64.wrap (rh + yn1)) u (IntKind.u64.wrap (q - 1)))) (fun k => by rw [bits_Div64.j4]; rfl) ?_
      rw [wrapu (q - 1), wrapu (rh + yn1), mod_small (x := rh + yn1) (by omega) (by omega), mod_small (x := q - 1) (by omega) (by omega)]
      have he' : (q - 1) * yn1 + (rh + yn1) = u := by
        have : (q - 1) * yn1 = q * yn1 - yn1 := by grind
        rw [this]; omega
      by_cases hc : rh + yn1 ≥ 4294967296
      · simp only [if_pos hc]
        have hle : q - 1 ≤ (u * 4294967296 + un1) / Y := by
          refine dig_lo hY hp he' ?_
          have := Int.mul_le_mul (show q - 1 ≤ 4294967296 by omega) (show yn0 ≤ 4294967295 by omega) h00 (by omega : (0 : Int) ≤ 4294967296)
          omega
        have e : q - 1 = (u * 4294967296 + un1) / Y := by omega
        rw [e, hfin, if_pos (by omega)]; exact Ev.now _
      · simp only [if_neg hc]
        exact ih (q - 1) (rh + yn1) (by omega) (by omega) (by omega) he' (by omega) (by omega)
    refine Ev.step (f := fun k => if q ≥ 4294967296 then (bits_Div64.j4 k Y s yn1 yn0 un1 q1 rh u q true) else (bits_Div64.j4 k Y s yn1 yn0 un1 q1 rh u q (decide ((IntKind.u64.wrap (q * yn0)) > (IntKind.u64.wrap ((IntKind.u64.wrap (4294967296 * rh)) + un1)))))) (fun k => by rw [bits_Div64.l1]) ?_
    by_cases hc : q ≥ 4294967296
    · simp only [if_pos hc]
      exact down (by omega)
    · simp only [if_neg hc]
      rw [wrapu, wrapu, wrapu, mod_small hb.1 (by omega), mod_small (x := 4294967296 * rh) (by omega) (by omega), mod_small (x := 4294967296 * rh + un1) (by omega) (by omega)]
      by_cases hd : q * yn0 > 4294967296 * rh + un1
      · simp only [hd, decide_true]
        exact down (dig_hi hY hp he hd)
      · simp only [hd, decide_false]
        refine Ev.step (f := fun _ => if 0 ≤ (s : Int) then (some (IntKind.u64.wrap ((IntKind.u64.wrap (q1 * 4294967296)) + q), shr .u64 (IntKind.u64.wrap ((IntKind.u64.wrap ((IntKind.u64.wrap (u * 4294967296)) + un1)) - (IntKind.u64.wrap (q * Y)))) s)) else (none)) (fun k => by rw [bits_Div64.j4]; rfl) ?_
        have : q = (u * 4294967296 + un1) / Y := by
          have := dig_lo hY hp he (by omega : q * yn0 ≤ 4294967296 * rh + un1)
          omega
        rw [this, hfin, if_pos (by omega)]; exact Ev.now _

end Go.Proofs.Ytamfhlafhkgapaa.Px
