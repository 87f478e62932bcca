/- Lemmas on quotients of products, for the statements of chapter 01: no condition beyond what each lemma says. -/
import Derived.Test.YtamfhlafhkgapaaFf
namespace Go.Proofs.Ytamfhlafhkgapaa.Px
set_option linter.unusedSimpArgs false
set_option linter.unusedVariables false
open Go.RowKit Go.Proofs.YtamfhlafhkgapaaW.PrintWords Go.Proofs.YtamfhlafhkgapaaW.PrintLast Go.Proofs.YtamfhlafhkgapaaW.PrintMore

def i64ok (x : Int) : Prop := -9223372036854775808 ≤ x ∧ x ≤ 9223372036854775807
theorem i64_wf {x : Int} (h : (Lit.int .i64 x).wf = true) : i64ok x := by
  simp [Lit.wf, IntKind.min, IntKind.max, IntKind.bits, IntKind.signed] at h
  unfold i64ok; omega
def amt (x : Int) : Int := if x < 0 then -x else x
theorem amt_bd {x : Int} (h : i64ok x) : 0 ≤ amt x ∧ amt x ≤ 9223372036854775808 := by unfold amt; unfold i64ok at h; split <;> omega
theorem amount_f {x : Int} (h : i64ok x) : fixed_amount.f x = some (amt x) := by
  unfold fixed_amount.f amt
  unfold i64ok at h
  simp only [wrapu]
  by_cases c : x < 0
  · rw [if_pos c, if_pos c]; congr 1; omega
  · rw [if_neg c, if_neg c]; congr 1; omega
theorem size_f {x : Int} (h : i64ok x) : colophonref01_size.f x = some (amt x, decide (x < 0)) := by
  unfold colophonref01_size.f amt
  unfold i64ok at h
  simp only [wrapu]
  by_cases c : x < 0
  · rw [if_pos c, if_pos c]
    rw [wrap64_small (x := x + 1) (by omega) (by omega), wrap64_small (x := -(x + 1)) (by omega) (by omega)]
    simp only [c, decide_true]; congr 2; omega
  · rw [if_neg c, if_neg c]
    simp only [c, decide_false]; congr 2; omega
theorem mul_amt (a b : Int) : amt a * amt b = if (decide (a < 0) != decide (b < 0)) = true then -(a * b) else a * b := by
  unfold amt
  by_cases ha : a < 0 <;> by_cases hb : b < 0 <;> simp [ha, hb, Int.neg_mul, Int.mul_neg]
theorem signed_f (m : Int) (b : Bool) (h0 : 0 ≤ m) (h1 : m ≤ 9223372036854775807) : fixed_signed.f m b = some (if b = true then -m else m) := by
  unfold fixed_signed.f
  cases b
  · simp; exact wrap64_small (by omega) (by omega)
  · simp only [if_true]; rw [wrap64_small (x := m) (by omega) (by omega), wrap64_small (by omega) (by omega)]
/-- the quotient, rounded down, if it is in -/
def floorS (a b c : Int) : Int × Bool := if c < 1 then (0, false) else keep (a * b / c) true
/-- the quotient, rounded to the nearest (of two, the greater), if it is in -/
def scaleS (a b c : Int) : Int × Bool := if c < 1 then (0, false) else keep ((2 * (a * b) + c) / (2 * c)) true
theorem keep_out {x : Int} {b : Bool} (h : ¬ (-1099511627776 ≤ x ∧ x ≤ 1099511627776)) : keep x b = (0, false) := by
  unfold keep; rw [if_neg]; rw [inn_iff]; exact fun hh => h hh.2
theorem prod_lt {a b : Int} (ha : i64ok a) (hb : i64ok b) : 0 ≤ amt a * amt b ∧ amt a * amt b ≤ 85070591730234615865843651857942052864 := by
  have h1 := amt_bd ha; have h2 := amt_bd hb
  constructor
  · exact Int.mul_nonneg h1.1 h2.1
  · have := Int.mul_le_mul h1.2 h2.2 h2.1 (by omega)
    omega
/-- what the quotient of the amounts is: the quotient, the rest; too great: not told -/
theorem quotient_ev (a b c : Int) (ha : i64ok a) (hb : i64ok b) (hc : 1 ≤ c) (hc1 : c ≤ 9223372036854775807) :
    ∃ q r, Ev (fun k => fixed_quotient.f k a b c) (q, r, if amt a * amt b / 18446744073709551616 ≥ c then false else (decide (a < 0) != decide (b < 0)), if amt a * amt b / 18446744073709551616 ≥ c then false else decide (q ≤ 1099511627777)) ∧
      (amt a * amt b / 18446744073709551616 < c → q = amt a * amt b / c ∧ r = amt a * amt b % c) ∧ (amt a * amt b / 18446744073709551616 ≥ c → q = 0 ∧ r = 0) := by
  have hp := prod_lt ha hb
  have h1 := amt_bd ha; have h2 := amt_bd hb
  have hM := Mul64_f (amt a) (amt b) h1.1 (by omega) h2.1 (by omega)
  by_cases h : amt a * amt b / 18446744073709551616 ≥ c
  · refine ⟨0, 0, ?_, fun hh => by omega, fun _ => ⟨rfl, rfl⟩⟩
    refine Ev.congr (f := fun _ => some (0, 0, false, false)) (fun k => ?_) (by rw [if_pos h, if_pos h]; exact Ev.now _)
    unfold fixed_quotient.f
    rw [amount_f ha, amount_f hb]; simp only [Option.bind_some]; rw [hM]; simp only [Option.bind_some]
    rw [wrapu, mod_small (x := c) (by omega) (by omega), if_pos h]
  · refine ⟨amt a * amt b / c, amt a * amt b % c, ?_, fun _ => ⟨rfl, rfl⟩, fun hh => absurd hh h⟩
    have hd := Div64_ev (amt a * amt b / 18446744073709551616) (amt a * amt b % 18446744073709551616) c (by omega) (by omega) (by omega) (by omega) (by omega)
    rw [show amt a * amt b / 18446744073709551616 * 18446744073709551616 + amt a * amt b % 18446744073709551616 = amt a * amt b from by omega] at hd
    rw [if_neg h, if_neg h]
    refine Ev.congr (f := fun k => (bits_Div64.f k (amt a * amt b / 18446744073709551616) (amt a * amt b % 18446744073709551616) c).bind fun bt => some (bt.1, bt.2, ((decide (a < 0)) != (decide (b < 0))), decide (bt.1 ≤ 1099511627777))) (fun k => ?_) (Ev.bind hd (Ev.now _))
    unfold fixed_quotient.f
    rw [amount_f ha, amount_f hb]; simp only [Option.bind_some]; rw [hM]; simp only [Option.bind_some]
    rw [wrapu, mod_small (x := c) (by omega) (by omega), if_neg h]
theorem big_q {P c : Int} (hc : 1 ≤ c) (h : P / 18446744073709551616 ≥ c) : 18446744073709551616 ≤ P / c := by
  rw [Int.le_ediv_iff_mul_le (by omega)]
  have := Int.mul_le_mul_of_nonneg_left h (show (0 : Int) ≤ 18446744073709551616 by omega)
  omega
theorem neg_div {P c : Int} (hc : 0 < c) : -P / c = if P % c = 0 then -(P / c) else -(P / c) - 1 := by
  have hd := Int.mul_ediv_add_emod P c
  have h0 := Int.emod_nonneg P (by omega : c ≠ 0)
  have h1 := Int.emod_lt_of_pos P hc
  generalize P / c = q at *
  generalize P % c = r at *
  by_cases h : r = 0
  · rw [if_pos h]
    have e : -P = (-q) * c := by rw [← hd, h]; grind
    rw [e]; exact Int.mul_ediv_cancel _ (by omega)
  · rw [if_neg h]
    have e : -P = (c - r) + (-q - 1) * c := by rw [← hd]; grind
    rw [e, Int.add_mul_ediv_right _ _ (by omega), Int.ediv_eq_zero_of_lt (by omega) (by omega)]; omega
/-- the nearest, out of the quotient and the rest -/
theorem near_pos {P c : Int} (hc : 0 < c) : (2 * P + c) / (2 * c) = P / c + (if 2 * (P % c) ≥ c then 1 else 0) := by
  have hd := Int.mul_ediv_add_emod P c
  have h0 := Int.emod_nonneg P (by omega : c ≠ 0)
  have h1 := Int.emod_lt_of_pos P hc
  generalize P / c = q at *
  generalize P % c = r at *
  by_cases h : 2 * r ≥ c
  · rw [if_pos h]
    have e : 2 * P + c = (2 * r - c) + (q + 1) * (2 * c) := by rw [← hd]; grind
    rw [e, Int.add_mul_ediv_right _ _ (by omega), Int.ediv_eq_zero_of_lt (by omega) (by omega)]; omega
  · rw [if_neg h]
    have e : 2 * P + c = (2 * r + c) + q * (2 * c) := by rw [← hd]; grind
    rw [e, Int.add_mul_ediv_right _ _ (by omega), Int.ediv_eq_zero_of_lt (by omega) (by omega)]; omega
theorem near_neg {P c : Int} (hc : 0 < c) : (2 * (-P) + c) / (2 * c) = -(P / c + (if 2 * (P % c) > c then 1 else 0)) := by
  have hd := Int.mul_ediv_add_emod P c
  have h0 := Int.emod_nonneg P (by omega : c ≠ 0)
  have h1 := Int.emod_lt_of_pos P hc
  generalize P / c = q at *
  generalize P % c = r at *
  by_cases h : 2 * r > c
  · rw [if_pos h]
    have e : 2 * (-P) + c = (3 * c - 2 * r) + (-q - 1) * (2 * c) := by rw [← hd]; grind
    rw [e, Int.add_mul_ediv_right _ _ (by omega), Int.ediv_eq_zero_of_lt (by omega) (by omega)]; omega
  · rw [if_neg h]
    have e : 2 * (-P) + c = (c - 2 * r) + (-q) * (2 * c) := by rw [← hd]; grind
    rw [e, Int.add_mul_ediv_right _ _ (by omega), Int.ediv_eq_zero_of_lt (by omega) (by omega)]; omega
theorem ab_of (a b : Int) : a * b = if (decide (a < 0) != decide (b < 0)) = true then -(amt a * amt b) else amt a * amt b := by
  rw [mul_amt]
  split <;> omega

theorem Floor_ev (a b c : Int) (ha : i64ok a) (hb : i64ok b) (hc : i64ok c) : Ev (fun k => fixed_Floor.f k a b c) (floorS a b c) := by
  unfold i64ok at hc
  unfold floorS
  by_cases c1 : c < 1
  · rw [if_pos c1]
    exact Ev.congr (f := fun _ => some (0, false)) (fun k => by unfold fixed_Floor.f; rw [if_pos c1]) (Ev.now _)
  · rw [if_neg c1]
    obtain ⟨q, r, hq, hlt, hge⟩ := quotient_ev a b c ha hb (by omega) hc.2
    have hp := prod_lt ha hb
    have hab := ab_of a b
    refine Ev.congr (f := fun k => (fixed_quotient.f k a b c).bind fun bt209 => (if bt209.2.2.1 = true then (fixed_Floor.j0 k bt209.1 bt209.2.2.1 bt209.2.2.2 (decide (bt209.2.1 > 0))) else (fixed_Floor.j0 k bt209.1 bt209.2.2.1 bt209.2.2.2 false))) (fun k => by unfold fixed_Floor.f; rw [if_neg c1]) ?_
    refine Ev.bind hq ?_
    by_cases h : amt a * amt b / 18446744073709551616 ≥ c
    · obtain ⟨rfl, rfl⟩ := hge h
      have hbig := big_q (by omega) h
      rw [if_pos h, if_pos h]
      refine Ev.congr (f := fun k => fixed_Floor.j0 k 0 false false false) (fun k => by simp) ?_
      refine Ev.step (f := fun _ => some (0, false)) (fun k => by rw [fixed_Floor.j0]; simp [signed_f, kept_f, keep]) ?_
      have hn := neg_div (P := amt a * amt b) (c := c) (by omega)
      rw [keep_out (x := a * b / c) (b := true) ?_]
      · exact Ev.now _
      · rw [hab]
        split
        · rw [hn]; split <;> omega
        · omega
    · obtain ⟨rfl, rfl⟩ := hlt (by omega)
      rw [if_neg h, if_neg h]
      generalize hs : (decide (a < 0) != decide (b < 0)) = s at *
      have hq0 : 0 ≤ amt a * amt b / c := Int.ediv_nonneg hp.1 (by omega)
      have hr0 := Int.emod_nonneg (amt a * amt b) (by omega : c ≠ 0)
      have hn := neg_div (P := amt a * amt b) (c := c) (by omega)
      have hqw : amt a * amt b / c < 18446744073709551616 := by
        rw [Int.ediv_lt_iff_lt_mul (by omega)]
        have : amt a * amt b < (amt a * amt b / 18446744073709551616 + 1) * 18446744073709551616 := by omega
        have h3 : (amt a * amt b / 18446744073709551616 + 1) * 18446744073709551616 ≤ c * 18446744073709551616 := by omega
        omega
      generalize hgq : amt a * amt b / c = q at *
      generalize hgr : amt a * amt b % c = r at *
      generalize amt a * amt b = P at *
      by_cases hok : q ≤ 1099511627777
      · simp only [hok, decide_true]
        cases s
        · rw [if_neg (by decide)] at hab
          refine Ev.step (f := fun _ => some (keep q true)) (fun k => ?_) ?_
          · simp only [Bool.false_eq_true, if_false]
            rw [fixed_Floor.j0]; simp only [Bool.false_eq_true, if_false]
            rw [signed_f _ _ hq0 (by omega)]; simp [kept_f]
          · have e : a * b / c = q := by rw [hab]; exact hgq
            rw [e]; exact Ev.now _
        · rw [if_pos rfl] at hab
          by_cases hr : r > 0
          · refine Ev.step (f := fun _ => some (keep (-(q + 1)) true)) (fun k => ?_) ?_
            · simp only [if_true, hr, decide_true]
              rw [fixed_Floor.j0]; simp only [if_true]
              rw [wrapu, mod_small (by omega) (by omega), signed_f _ _ (by omega) (by omega)]; simp [kept_f]
            · have e : a * b / c = -(q + 1) := by rw [hab, hn, if_neg (by omega)]; omega
              rw [e]; exact Ev.now _
          · refine Ev.step (f := fun _ => some (keep (-q) true)) (fun k => ?_) ?_
            · simp only [if_true, hr, decide_false]
              rw [fixed_Floor.j0]; simp only [Bool.false_eq_true, if_false]
              rw [signed_f _ _ (by omega) (by omega)]; simp [kept_f]
            · have e : a * b / c = -q := by rw [hab, hn, if_pos (by omega)]
              rw [e]; exact Ev.now _
      · simp only [hok, decide_false]
        have hk : keep (a * b / c) true = (0, false) := by
          refine keep_out ?_
          rw [hab]
          cases s
          · rw [if_neg (by decide)]
            rw [hgq]; omega
          · rw [if_pos rfl, hn]; split <;> omega
        rw [hk]
        have hj : ∀ (m : Int) (b1 b2 : Bool) (k : Nat), fixed_Floor.j0 (k + 1) m b1 false b2 = some (0, false) := by
          intro m b1 b2 k
          rw [fixed_Floor.j0]
          cases b2 <;> simp [fixed_signed.f] <;> (split <;> simp [kept_f, keep])
        refine Ev.step (f := fun _ => some (0, false)) (fun k => ?_) (Ev.now _)
        cases s
        · simp only [Bool.false_eq_true, if_false]; exact hj _ _ _ _
        · simp only [if_true]; exact hj _ _ _ _

theorem Scale_ev (a b c : Int) (ha : i64ok a) (hb : i64ok b) (hc : i64ok c) : Ev (fun k => fixed_Scale.f k a b c) (scaleS a b c) := by
  unfold i64ok at hc
  unfold scaleS
  by_cases c1 : c < 1
  · rw [if_pos c1]
    exact Ev.congr (f := fun _ => some (0, false)) (fun k => by unfold fixed_Scale.f; rw [if_pos c1]) (Ev.now _)
  · rw [if_neg c1]
    obtain ⟨q, r, hq, hlt, hge⟩ := quotient_ev a b c ha hb (by omega) hc.2
    have hp := prod_lt ha hb
    have hab := ab_of a b
    have hpos := near_pos (P := amt a * amt b) (c := c) (by omega)
    have hneg := near_neg (P := amt a * amt b) (c := c) (by omega)
    refine Ev.congr (f := fun k => (fixed_quotient.f k a b c).bind fun bt242 => (if bt242.2.2.1 = true then (if bt242.2.1 > (IntKind.u64.wrap ((IntKind.u64.wrap (c)) - bt242.2.1)) then (fixed_Scale.j0 k bt242.1 bt242.2.2.1 bt242.2.2.2 true) else (fixed_Scale.j0 k bt242.1 bt242.2.2.1 bt242.2.2.2 false)) else (if bt242.2.1 > 0 then (fixed_Scale.j0 k bt242.1 bt242.2.2.1 bt242.2.2.2 (decide (bt242.2.1 ≥ (IntKind.u64.wrap ((IntKind.u64.wrap (c)) - bt242.2.1))))) else (fixed_Scale.j0 k bt242.1 bt242.2.2.1 bt242.2.2.2 false)))) (fun k => by unfold fixed_Scale.f; rw [if_neg c1]) ?_
    refine Ev.bind hq ?_
    by_cases h : amt a * amt b / 18446744073709551616 ≥ c
    · obtain ⟨rfl, rfl⟩ := hge h
      have hbig := big_q (by omega) h
      rw [if_pos h, if_pos h]
      refine Ev.congr (f := fun k => fixed_Scale.j0 k 0 false false false) (fun k => by simp) ?_
      refine Ev.step (f := fun _ => some (0, false)) (fun k => by rw [fixed_Scale.j0]; simp [signed_f, kept_f, keep]) ?_
      rw [keep_out (x := (2 * (a * b) + c) / (2 * c)) (b := true) ?_]
      · exact Ev.now _
      · rw [hab]
        split
        · rw [hneg]; split <;> omega
        · rw [hpos]; split <;> omega
    · obtain ⟨rfl, rfl⟩ := hlt (by omega)
      rw [if_neg h, if_neg h]
      generalize hs : (decide (a < 0) != decide (b < 0)) = s at *
      have hq0 : 0 ≤ amt a * amt b / c := Int.ediv_nonneg hp.1 (by omega)
      have hr0 := Int.emod_nonneg (amt a * amt b) (by omega : c ≠ 0)
      have hr1 := Int.emod_lt_of_pos (amt a * amt b) (show 0 < c by omega)
      generalize hgq : amt a * amt b / c = q at *
      generalize hgr : amt a * amt b % c = r at *
      generalize amt a * amt b = P at *
      have e_half : IntKind.u64.wrap (IntKind.u64.wrap c - r) = c - r := by rw [wrapu, wrapu]; omega
      rw [e_half]
      by_cases hok : q ≤ 1099511627777
      · simp only [hok, decide_true]
        have hj : ∀ (b1 b2 : Bool) (k : Nat), fixed_Scale.j0 (k + 1) q b1 true b2 = some (keep (if b1 = true then -(if b2 = true then q + 1 else q) else (if b2 = true then q + 1 else q)) true) := by
          intro b1 b2 k
          rw [fixed_Scale.j0]
          cases b2
          · simp only [Bool.false_eq_true, if_false]
            rw [signed_f _ _ (by omega) (by omega)]; simp [kept_f]
          · simp only [if_true]
            rw [wrapu, mod_small (by omega) (by omega), signed_f _ _ (by omega) (by omega)]; simp [kept_f]
        cases s
        · rw [if_neg (by decide)] at hab
          rw [hab, hpos]
          simp only [Bool.false_eq_true, if_false]
          by_cases h2 : 2 * r ≥ c
          · rw [if_pos h2]
            refine Ev.step (f := fun _ => some (keep (q + 1) true)) (fun k => ?_) (Ev.now _)
            rw [if_pos (show r > 0 by omega), show decide (r ≥ c - r) = true from by simp; omega, hj]; simp
          · rw [if_neg h2, Int.add_zero]
            refine Ev.step (f := fun _ => some (keep q true)) (fun k => ?_) (Ev.now _)
            by_cases h3 : r > 0
            · rw [if_pos h3, show decide (r ≥ c - r) = false from by simp; omega, hj]; simp
            · rw [if_neg h3, hj]; simp
        · rw [if_pos rfl] at hab
          rw [hab, hneg]
          simp only [if_true]
          by_cases h2 : 2 * r > c
          · rw [if_pos h2]
            refine Ev.step (f := fun _ => some (keep (-(q + 1)) true)) (fun k => ?_) (Ev.now _)
            rw [if_pos (show r > c - r by omega), hj]; simp
          · rw [if_neg h2, Int.add_zero]
            refine Ev.step (f := fun _ => some (keep (-q) true)) (fun k => ?_) (Ev.now _)
            rw [if_neg (show ¬ r > c - r by omega), hj]; simp
      · simp only [hok, decide_false]
        have hk : keep ((2 * (a * b) + c) / (2 * c)) true = (0, false) := by
          refine keep_out ?_
          rw [hab]
          cases s
          · rw [if_neg (by decide), hpos]; split <;> omega
          · rw [if_pos rfl, hneg]; split <;> omega
        rw [hk]
        have hj : ∀ (m : Int) (b1 b2 : Bool) (k : Nat), fixed_Scale.j0 (k + 1) m b1 false b2 = some (0, false) := by
          intro m b1 b2 k
          rw [fixed_Scale.j0]
          cases b2 <;> simp [fixed_signed.f] <;> (split <;> simp [kept_f, keep])
        refine Ev.step (f := fun _ => some (0, false)) (fun k => ?_) (Ev.now _)
        cases s
        · simp only [Bool.false_eq_true, if_false]
          split <;> exact hj _ _ _ _
        · simp only [if_true]
          split <;> exact hj _ _ _ _
/-- the reference's parts -/
theorem parts_ev (a b c : Int) (ha : i64ok a) (hb : i64ok b) (hc : 1 ≤ c) (hc1 : c ≤ 9223372036854775807) :
    Ev (fun k => colophonref01_parts.f k a b c) ((decide (a < 0) != decide (b < 0)) && decide (amt a * amt b ≠ 0), if amt a * amt b / c ≤ 1099511627776 then amt a * amt b / c else 1099511627777, amt a * amt b % c) := by
  have hp := prod_lt ha hb
  have h1 := amt_bd ha; have h2 := amt_bd hb
  have hM := product_f (amt a) (amt b) h1.1 (by omega) h2.1 (by omega)
  have hd := divide_ev (amt a * amt b / 18446744073709551616) (amt a * amt b % 18446744073709551616) c (by omega) (by omega) (by omega) (by omega) (by omega) (by omega)
  rw [show amt a * amt b / 18446744073709551616 * 18446744073709551616 + amt a * amt b % 18446744073709551616 = amt a * amt b from by omega] at hd
  have hq0 : 0 ≤ amt a * amt b / c := Int.ediv_nonneg hp.1 (by omega)
  generalize hP : amt a * amt b = P at *
  generalize hQ : P / c = q at *
  generalize hR : P % c = r at *
  generalize hs : (decide (a < 0) != decide (b < 0)) = s at *
  refine Ev.congr (f := fun k => (colophonref01_divide.f k (P / 18446744073709551616) (P % 18446744073709551616) c).bind fun bt225 => some (s && decide (P ≠ 0), if bt225.1 = 0 ∧ bt225.2.1 ≤ 1099511627776 then wrap64 bt225.2.1 else 1099511627777, bt225.2.2)) (fun k => ?_) ?_
  · unfold colophonref01_parts.f
    rw [size_f ha, size_f hb]; simp only [Option.bind_some]; rw [hM]; simp only [Option.bind_some]
    rw [wrapu, mod_small (x := c) (by omega) (by omega), hs]
    congr 1; funext bt
    have hz : (P / 18446744073709551616 = 0 → (P % 18446744073709551616 != 0) = decide (P ≠ 0)) ∧ (P / 18446744073709551616 ≠ 0 → decide (P ≠ 0) = true) := by
      constructor
      · intro h; rw [Bool.eq_iff_iff]; simp; omega
      · intro h; simp; omega
    by_cases e1 : bt.1 = 0 <;> by_cases e2 : bt.2.1 ≤ 1099511627776 <;> by_cases e3 : P / 18446744073709551616 = 0 <;> cases s <;> simp [e1, e2, e3] <;> first | (have := hz.1 e3; simpa using this) | (have := hz.2 e3; simpa using this) | skip
  · refine Ev.bind hd ?_
    have e : (if q / 18446744073709551616 = 0 ∧ q % 18446744073709551616 ≤ 1099511627776 then wrap64 (q % 18446744073709551616) else 1099511627777) = if q ≤ 1099511627776 then q else 1099511627777 := by
      by_cases h : q ≤ 1099511627776
      · rw [if_pos h, if_pos (by omega), wrap64_small (by omega) (by omega)]; omega
      · rw [if_neg h, if_neg (by omega)]
    rw [e]; exact Ev.now _

end Go.Proofs.Ytamfhlafhkgapaa.Px
