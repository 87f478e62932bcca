/- Lemmas on the product of two words, high and low, for the statements of chapter 01: no condition beyond what each lemma says. -/
import Derived.Test.YtamfhlafhkgapaaFa
import Derived.Test.YtamfhlafhkgapaaPxx5
namespace Go.Proofs.Ytamfhlafhkgapaa.Px
set_option linter.unusedSimpArgs false
set_option linter.unusedVariables false
open Go.RowKit Go.Proofs.YtamfhlafhkgapaaW.PrintWords Go.Proofs.YtamfhlafhkgapaaW.PrintLast Go.Proofs.YtamfhlafhkgapaaW.PrintMore

theorem wrapu (n : Int) : IntKind.u64.wrap n = n % 18446744073709551616 := by simp [IntKind.wrap, IntKind.bits, IntKind.signed]
theorem wraps_u64 (n : Int) (h0 : 0 ≤ n) (h1 : n < 2 ^ 64) : IntKind.u64.wrap n = n := by rw [wrapu]; omega
theorem wraps_i64 (n : Int) (h0 : 0 ≤ n) (h1 : n < 2 ^ 63) : IntKind.i64.wrap n = n := by rw [IntKind.wrap_i64]; omega
theorem u64_and32 (x : Int) (h0 : 0 ≤ x) (h1 : x < 18446744073709551616) : Go.bits .and .u64 x 4294967295 = x % 4294967296 := bits_mask .u64 64 (by decide) wraps_u64 32 (by decide) x h0 (by omega)
theorem u64_and1 (x : Int) (h0 : 0 ≤ x) (h1 : x < 18446744073709551616) : Go.bits .and .u64 x 1 = x % 2 := bits_mask .u64 64 (by decide) wraps_u64 1 (by decide) x h0 (by omega)
theorem i64_and63 (x : Int) (h0 : 0 ≤ x) (h1 : x < 9223372036854775808) : Go.bits .and .i64 x 63 = x % 64 := bits_mask .i64 63 (by decide) wraps_i64 6 (by decide) x h0 (by omega)
theorem u64_or1 (x y : Int) (h0 : 0 ≤ x) (hx : x % 2 = 0) (h1 : x < 18446744073709551616) (h2 : 0 ≤ y) (h3 : y < 2) : Go.bits .or .u64 x y = x + y :=
  bits_join .u64 64 (by decide) wraps_u64 1 x y h0 (by simpa using hx) (by omega) h2 (by simpa using h3) (by omega)
theorem u64_or32 (x y : Int) (h0 : 0 ≤ x) (hx : x % 4294967296 = 0) (h1 : x < 18446744073709551616) (h2 : 0 ≤ y) (h3 : y < 4294967296) : Go.bits .or .u64 x y = x + y :=
  bits_join .u64 64 (by decide) wraps_u64 32 x y h0 (by simpa using hx) (by omega) h2 (by simpa using h3) (by omega)
theorem mul_bd {x y : Int} (hx0 : 0 ≤ x) (hx : x ≤ 4294967295) (hy0 : 0 ≤ y) (hy : y ≤ 4294967295) : 0 ≤ x * y ∧ x * y ≤ 18446744065119617025 := by
  constructor
  · exact Int.mul_nonneg hx0 hy0
  · have := Int.mul_le_mul hx hy hy0 (by omega : (0 : Int) ≤ 4294967295)
    omega
theorem split_mul (a b : Int) : a * b = (a / 4294967296) * (b / 4294967296) * 18446744073709551616 + ((a / 4294967296) * (b % 4294967296) + (a % 4294967296) * (b / 4294967296)) * 4294967296 + (a % 4294967296) * (b % 4294967296) := by
  have ha : a = (a / 4294967296) * 4294967296 + a % 4294967296 := by omega
  have hb : b = (b / 4294967296) * 4294967296 + b % 4294967296 := by omega
  generalize a / 4294967296 = a1 at *
  generalize a % 4294967296 = a0 at *
  generalize b / 4294967296 = b1 at *
  generalize b % 4294967296 = b0 at *
  subst ha hb
  grind
theorem mul_hi_lo (p11 p10 p01 p00 ab : Int) (h : ab = p11 * 18446744073709551616 + (p10 + p01) * 4294967296 + p00)
    (a0 : 0 ≤ p11) (a1 : p11 ≤ 18446744065119617025) (b0 : 0 ≤ p10) (b1 : p10 ≤ 18446744065119617025) (c0 : 0 ≤ p01) (c1 : p01 ≤ 18446744065119617025) (d0 : 0 ≤ p00) (d1 : p00 ≤ 18446744065119617025) (hab : ab < 340282366920938463463374607431768211456) :
    (p11 + (p10 + p00 / 4294967296) / 4294967296 + ((p10 + p00 / 4294967296) % 4294967296 + p01) / 4294967296) = ab / 18446744073709551616 ∧
    ((p10 + p00 / 4294967296) % 4294967296 + p01) % 4294967296 * 4294967296 + p00 % 4294967296 = ab % 18446744073709551616 := by
  subst h
  constructor <;> omega
theorem mod_small {x : Int} (h0 : 0 ≤ x) (h1 : x < 18446744073709551616) : x % 18446744073709551616 = x := Int.emod_eq_of_lt h0 h1
theorem mul_lt_sq {a b : Int} (ha0 : 0 ≤ a) (ha : a < 18446744073709551616) (hb0 : 0 ≤ b) (hb : b < 18446744073709551616) : 0 ≤ a * b ∧ a * b < 340282366920938463463374607431768211456 := by
  constructor
  · exact Int.mul_nonneg ha0 hb0
  · have := Int.mul_le_mul (show a ≤ 18446744073709551615 by omega) (show b ≤ 18446744073709551615 by omega) hb0 (by omega)
    omega
theorem Mul64_f (a b : Int) (ha0 : 0 ≤ a) (ha : a < 18446744073709551616) (hb0 : 0 ≤ b) (hb : b < 18446744073709551616) :
    bits_Mul64.f a b = some (a * b / 18446744073709551616, a * b % 18446744073709551616) := by
  have p11 := mul_bd (x := a / 4294967296) (y := b / 4294967296) (by omega) (by omega) (by omega) (by omega)
  have p10 := mul_bd (x := a / 4294967296) (y := b % 4294967296) (by omega) (by omega) (by omega) (by omega)
  have p01 := mul_bd (x := a % 4294967296) (y := b / 4294967296) (by omega) (by omega) (by omega) (by omega)
  have p00 := mul_bd (x := a % 4294967296) (y := b % 4294967296) (by omega) (by omega) (by omega) (by omega)
  have hs := split_mul a b
  have hm := mul_hi_lo _ _ _ _ _ hs p11.1 p11.2 p10.1 p10.2 p01.1 p01.2 p00.1 p00.2 (mul_lt_sq ha0 ha hb0 hb).2
  unfold bits_Mul64.f
  rw [u64_and32 a ha0 ha, u64_and32 b hb0 hb]
  simp only [wrapu]
  generalize a / 4294967296 * (b / 4294967296) = q11 at *
  generalize a / 4294967296 * (b % 4294967296) = q10 at *
  generalize a % 4294967296 * (b / 4294967296) = q01 at *
  generalize a % 4294967296 * (b % 4294967296) = q00 at *
  rw [mod_small p00.1 (by omega), mod_small p10.1 (by omega), mod_small p01.1 (by omega), mod_small p11.1 (by omega)]
  rw [mod_small (x := q10 + q00 / 4294967296) (by omega) (by omega)]
  rw [u64_and32 _ (by omega) (by omega)]
  rw [mod_small (x := (q10 + q00 / 4294967296) % 4294967296 + q01) (by omega) (by omega)]
  have hb1 : (q10 + q00 / 4294967296) / 4294967296 ≤ 4294967296 := by omega
  rw [mod_small (x := q11 + (q10 + q00 / 4294967296) / 4294967296) (by omega) (by omega)]
  have hlt := mul_lt_sq ha0 ha hb0 hb
  rw [hm.1, mod_small (x := a * b / 18446744073709551616) (by omega) (by omega)]
theorem product_f (a b : Int) (ha0 : 0 ≤ a) (ha : a < 18446744073709551616) (hb0 : 0 ≤ b) (hb : b < 18446744073709551616) :
    colophonref01_product.f a b = some (a * b / 18446744073709551616, a * b % 18446744073709551616) := by
  have p11 := mul_bd (x := a / 4294967296) (y := b / 4294967296) (by omega) (by omega) (by omega) (by omega)
  have p10 := mul_bd (x := a / 4294967296) (y := b % 4294967296) (by omega) (by omega) (by omega) (by omega)
  have p01 := mul_bd (x := a % 4294967296) (y := b / 4294967296) (by omega) (by omega) (by omega) (by omega)
  have p00 := mul_bd (x := a % 4294967296) (y := b % 4294967296) (by omega) (by omega) (by omega) (by omega)
  have hs := split_mul a b
  have hm := mul_hi_lo _ _ _ _ _ hs p11.1 p11.2 p10.1 p10.2 p01.1 p01.2 p00.1 p00.2 (mul_lt_sq ha0 ha hb0 hb).2
  unfold colophonref01_product.f
  rw [u64_and32 a ha0 ha, u64_and32 b hb0 hb]
  simp only [wrapu]
  generalize a / 4294967296 * (b / 4294967296) = q11 at *
  generalize a / 4294967296 * (b % 4294967296) = q10 at *
  generalize a % 4294967296 * (b / 4294967296) = q01 at *
  generalize a % 4294967296 * (b % 4294967296) = q00 at *
  rw [mod_small p00.1 (by omega), mod_small p10.1 (by omega), mod_small p01.1 (by omega), mod_small p11.1 (by omega)]
  rw [mod_small (x := q10 + q00 / 4294967296) (by omega) (by omega)]
  rw [u64_and32 (q10 + q00 / 4294967296) (by omega) (by omega)]
  rw [mod_small (x := (q10 + q00 / 4294967296) % 4294967296 + q01) (by omega) (by omega)]
  have hb1 : (q10 + q00 / 4294967296) / 4294967296 ≤ 4294967296 := by omega
  rw [mod_small (x := q11 + (q10 + q00 / 4294967296) / 4294967296) (by omega) (by omega)]
  have hlt := mul_lt_sq ha0 ha hb0 hb
  rw [hm.1, mod_small (x := a * b / 18446744073709551616) (by omega) (by omega)]
  rw [u64_and32 q00 (by omega) (by omega)]
  generalize hw : (q10 + q00 / 4294967296) % 4294967296 + q01 = w1 at *
  have h5 : w1 * 4294967296 % 18446744073709551616 = w1 % 4294967296 * 4294967296 := by omega
  rw [h5, u64_or32 _ _ (by omega) (by omega) (by omega) (by omega) (by omega), hm.2]

end Go.Proofs.Ytamfhlafhkgapaa.Px
