/- Rules for walking Go functions with memory told by tags (N1). -/
import Derived.Test.YtbeblgjibfoanaaB2
import Derived.Laws.Entries
import Derived.Laws.BitsLemmas
import Derived.Laws.Small
namespace Go.Proofs.Ytbeblgjibfoanaa.Am
set_option linter.unusedSimpArgs false
set_option linter.unusedVariables false
open Go Go.RowKit
/-! Numbers of 64 bits without a sign. -/
theorem wrapu (n : Int) : IntKind.u64.wrap n = n % 18446744073709551616 := by simp [IntKind.wrap, IntKind.bits, IntKind.signed]
theorem wraps_u64 (n : Int) (h0 : 0 ≤ n) (h1 : n < 2 ^ 64) : IntKind.u64.wrap n = n := by rw [wrapu]; omega
theorem wraps_i64 (n : Int) (h0 : 0 ≤ n) (h1 : n < 2 ^ 63) : IntKind.i64.wrap n = n := wrap_i64 (by omega) (by omega)
theorem u64_and32 (x : Int) (h0 : 0 ≤ x) (h1 : x < 18446744073709551616) : Go.bits .and .u64 x 4294967295 = x % 4294967296 := bits_mask .u64 64 (by decide) wraps_u64 32 (by decide) x h0 (by omega)
theorem u64_and1 (x : Int) (h0 : 0 ≤ x) (h1 : x < 18446744073709551616) : Go.bits .and .u64 x 1 = x % 2 := bits_mask .u64 64 (by decide) wraps_u64 1 (by decide) x h0 (by omega)
theorem i64_and63 (x : Int) (h0 : 0 ≤ x) (h1 : x < 9223372036854775808) : Go.bits .and .i64 x 63 = x % 64 := bits_mask .i64 63 (by decide) wraps_i64 6 (by decide) x h0 (by omega)
theorem u64_or1 (x y : Int) (h0 : 0 ≤ x) (hx : x % 2 = 0) (h1 : x < 18446744073709551616) (h2 : 0 ≤ y) (h3 : y < 2) : Go.bits .or .u64 x y = x + y :=
  bits_join .u64 64 (by decide) wraps_u64 1 x y h0 (by simpa using hx) (by omega) h2 (by simpa using h3) (by omega)
theorem u64_or32 (x y : Int) (h0 : 0 ≤ x) (hx : x % 4294967296 = 0) (h1 : x < 18446744073709551616) (h2 : 0 ≤ y) (h3 : y < 4294967296) : Go.bits .or .u64 x y = x + y :=
  bits_join .u64 64 (by decide) wraps_u64 32 x y h0 (by simpa using hx) (by omega) h2 (by simpa using h3) (by omega)
theorem mul_bd {x y : Int} (hx0 : 0 ≤ x) (hx : x ≤ 4294967295) (hy0 : 0 ≤ y) (hy : y ≤ 4294967295) : 0 ≤ x * y ∧ x * y ≤ 18446744065119617025 := by
  constructor
  · exact Int.mul_nonneg hx0 hy0
  · have := Int.mul_le_mul hx hy hy0 (by omega : (0 : Int) ≤ 4294967295)
    omega
theorem split_mul (a b : Int) : a * b = (a / 4294967296) * (b / 4294967296) * 18446744073709551616 + ((a / 4294967296) * (b % 4294967296) + (a % 4294967296) * (b / 4294967296)) * 4294967296 + (a % 4294967296) * (b % 4294967296) := by
  have ha : a = (a / 4294967296) * 4294967296 + a % 4294967296 := by omega
  have hb : b = (b / 4294967296) * 4294967296 + b % 4294967296 := by omega
  generalize a / 4294967296 = a1 at *
  generalize a % 4294967296 = a0 at *
  generalize b / 4294967296 = b1 at *
  generalize b % 4294967296 = b0 at *
  subst ha hb
  grind
theorem mul_hi_lo (p11 p10 p01 p00 ab : Int) (h : ab = p11 * 18446744073709551616 + (p10 + p01) * 4294967296 + p00)
    (a0 : 0 ≤ p11) (a1 : p11 ≤ 18446744065119617025) (b0 : 0 ≤ p10) (b1 : p10 ≤ 18446744065119617025) (c0 : 0 ≤ p01) (c1 : p01 ≤ 18446744065119617025) (d0 : 0 ≤ p00) (d1 : p00 ≤ 18446744065119617025) (hab : ab < 340282366920938463463374607431768211456) :
    (p11 + (p10 + p00 / 4294967296) / 4294967296 + ((p10 + p00 / 4294967296) % 4294967296 + p01) / 4294967296) = ab / 18446744073709551616 ∧
    ((p10 + p00 / 4294967296) % 4294967296 + p01) % 4294967296 * 4294967296 + p00 % 4294967296 = ab % 18446744073709551616 := by
  subst h
  constructor <;> omega
theorem mul_lt_sq {a b : Int} (ha0 : 0 ≤ a) (ha : a < 18446744073709551616) (hb0 : 0 ≤ b) (hb : b < 18446744073709551616) : 0 ≤ a * b ∧ a * b < 340282366920938463463374607431768211456 := by
  constructor
  · exact Int.mul_nonneg ha0 hb0
  · have := Int.mul_le_mul (show a ≤ 18446744073709551615 by omega) (show b ≤ 18446744073709551615 by omega) hb0 (by omega)
    omega
/-- one bit more of the dividend -/
theorem bit_step {P c b : Int} (hc : 0 < c) (hb0 : 0 ≤ b) (hb : b < 2) :
    (2 * P + b) / c = 2 * (P / c) + (if 2 * (P % c) + b ≥ c then 1 else 0) ∧ (2 * P + b) % c = 2 * (P % c) + b - (if 2 * (P % c) + b ≥ c then c else 0) := by
  have hd := Int.mul_ediv_add_emod P c
  have h0 := Int.emod_nonneg P (by omega : c ≠ 0)
  have h1 := Int.emod_lt_of_pos P hc
  generalize P / c = q at *
  generalize P % c = r at *
  by_cases h : 2 * r + b ≥ c
  · simp only [if_pos h]
    have e : 2 * P + b = (2 * r + b - c) + (2 * q + 1) * c := by rw [← hd]; grind
    rw [e, Int.add_mul_ediv_right _ _ (by omega), Int.add_mul_emod_self_right, Int.ediv_eq_zero_of_lt (by omega) (by omega), Int.emod_eq_of_lt (by omega) (by omega)]
    omega
  · simp only [if_neg h]
    have e : 2 * P + b = (2 * r + b) + (2 * q) * c := by rw [← hd]; grind
    rw [e, Int.add_mul_ediv_right _ _ (by omega), Int.add_mul_emod_self_right, Int.ediv_eq_zero_of_lt (by omega) (by omega), Int.emod_eq_of_lt (by omega) (by omega)]
    omega
theorem half_pow (D : Int) (i : Nat) : D / 2 ^ i = 2 * (D / 2 ^ (i + 1)) + D / 2 ^ i % 2 := by
  have e : D / 2 ^ (i + 1) = D / 2 ^ i / 2 := by
    rw [Int.pow_succ, Int.ediv_ediv_of_nonneg (Int.le_of_lt (Int.pow_pos (by decide)))]
  rw [e]; omega
theorem low_bit {hi lo : Int} (i : Nat) (hi' : i ≤ 63) : lo / 2 ^ i % 2 = (hi * 18446744073709551616 + lo) / 2 ^ i % 2 := by
  have e : hi * 18446744073709551616 + lo = lo + (hi * 2 ^ (63 - i) * 2) * 2 ^ i := by
    have : (18446744073709551616 : Int) = 2 ^ (63 - i) * 2 * 2 ^ i := by
      rw [← Int.pow_succ, ← Int.pow_add, show 63 - i + 1 + i = 64 from by omega]; rfl
    rw [this]; grind
  rw [e, Int.add_mul_ediv_right _ _ (Int.ne_of_gt (Int.pow_pos (by decide)))]
  omega
theorem high_bit {hi lo : Int} (h0 : 0 ≤ lo) (h1 : lo < 18446744073709551616) (i : Nat) (hi' : 64 ≤ i) : hi / 2 ^ (i - 64) = (hi * 18446744073709551616 + lo) / 2 ^ i := by
  have e : (2 : Int) ^ i = 18446744073709551616 * 2 ^ (i - 64) := by
    rw [show (18446744073709551616 : Int) = 2 ^ 64 from rfl, ← Int.pow_add, show 64 + (i - 64) = i from by omega]
  rw [e, ← Int.ediv_ediv_of_nonneg (by omega)]
  congr 1
  omega
section
variable {F : Mem} {K : Own} {L : Slots}
theorem suA {t t' : TypeId} {x y : Operand} {a b : Int} (hx : evO L x = some (.int .u64 a) := by rfl) (hy : evO L y = some (.int .u64 b) := by rfl) (h0 : 0 ≤ a + b := by omega) (h1 : a + b < 18446744073709551616 := by omega) : SD Try.prog F K L (.binOp .add t x y t') (.int .u64 (a + b)) :=
  (O (by simp [dOp, dBin, hx, hy, IntKind.wrap_i64, wraps_u64 _ h0 h1] : dOp Θ (evO L) (.binOp .add t x y t') = some (.int .u64 (a + b))))
theorem suS {t t' : TypeId} {x y : Operand} {a b : Int} (hx : evO L x = some (.int .u64 a) := by rfl) (hy : evO L y = some (.int .u64 b) := by rfl) (h0 : 0 ≤ a - b := by omega) (h1 : a - b < 18446744073709551616 := by omega) : SD Try.prog F K L (.binOp .sub t x y t') (.int .u64 (a - b)) :=
  (O (by simp [dOp, dBin, hx, hy, wraps_u64 _ h0 h1] : dOp Θ (evO L) (.binOp .sub t x y t') = some (.int .u64 (a - b))))
theorem suM {t t' : TypeId} {x y : Operand} {a b : Int} (hx : evO L x = some (.int .u64 a) := by rfl) (hy : evO L y = some (.int .u64 b) := by rfl) (h0 : 0 ≤ a * b := by omega) (h1 : a * b < 18446744073709551616 := by omega) : SD Try.prog F K L (.binOp .mul t x y t') (.int .u64 (a * b)) :=
  (O (by simp [dOp, dBin, hx, hy, wraps_u64 _ h0 h1] : dOp Θ (evO L) (.binOp .mul t x y t') = some (.int .u64 (a * b))))
theorem sbAnd {t t' : TypeId} {x y : Operand} {k : IntKind} {a b v : Int} (h : Go.bits .and k a b = v) (hx : evO L x = some (.int k a) := by rfl) (hy : evO L y = some (.int k b) := by rfl) : SD Try.prog F K L (.binOp .and t x y t') (.int k v) := by
  subst h
  exact O (by simp [dOp, dBin, hx, hy, Go.bits])
theorem sbOr {t t' : TypeId} {x y : Operand} {k : IntKind} {a b v : Int} (h : Go.bits .or k a b = v) (hx : evO L x = some (.int k a) := by rfl) (hy : evO L y = some (.int k b) := by rfl) : SD Try.prog F K L (.binOp .or t x y t') (.int k v) := by
  subst h
  exact O (by simp [dOp, dBin, hx, hy, Go.bits])
theorem suAnd32 {t t' : TypeId} {x y : Operand} {a : Int} (hx : evO L x = some (.int .u64 a) := by rfl) (hy : evO L y = some (.int .u64 4294967295) := by rfl) (h0 : 0 ≤ a := by omega) (h1 : a < 18446744073709551616 := by omega) : SD Try.prog F K L (.binOp .and t x y t') (.int .u64 (a % 4294967296)) := sbAnd (u64_and32 a h0 h1) hx hy
theorem suAnd1 {t t' : TypeId} {x y : Operand} {a : Int} (hx : evO L x = some (.int .u64 a) := by rfl) (hy : evO L y = some (.int .u64 1) := by rfl) (h0 : 0 ≤ a := by omega) (h1 : a < 18446744073709551616 := by omega) : SD Try.prog F K L (.binOp .and t x y t') (.int .u64 (a % 2)) := sbAnd (u64_and1 a h0 h1) hx hy
theorem suOr32 {t t' : TypeId} {x y : Operand} {a b : Int} (hx : evO L x = some (.int .u64 a) := by rfl) (hy : evO L y = some (.int .u64 b) := by rfl) (h0 : 0 ≤ a := by omega) (hm : a % 4294967296 = 0 := by omega) (h1 : a < 18446744073709551616 := by omega) (h2 : 0 ≤ b := by omega) (h3 : b < 4294967296 := by omega) : SD Try.prog F K L (.binOp .or t x y t') (.int .u64 (a + b)) := sbOr (u64_or32 a b h0 hm h1 h2 h3) hx hy
theorem suOr1 {t t' : TypeId} {x y : Operand} {a b : Int} (hx : evO L x = some (.int .u64 a) := by rfl) (hy : evO L y = some (.int .u64 b) := by rfl) (h0 : 0 ≤ a := by omega) (hm : a % 2 = 0 := by omega) (h1 : a < 18446744073709551616 := by omega) (h2 : 0 ≤ b := by omega) (h3 : b < 2 := by omega) : SD Try.prog F K L (.binOp .or t x y t') (.int .u64 (a + b)) := sbOr (u64_or1 a b h0 hm h1 h2 h3) hx hy
/-- shifts by so many places -/
theorem suShr {t t' : TypeId} {x y : Operand} {k j : IntKind} {a b v : Int} (n : Nat) (hv : a / 2 ^ n = v) (hx : evO L x = some (.int k a) := by rfl) (hy : evO L y = some (.int j b) := by rfl) (hb : b = n := by first | rfl | omega) (hn : n ≤ k.bits := by decide) : SD Try.prog F K L (.binOp .shr t x y t') (.int k v) := by
  subst hb hv
  have := SD.shrK (P := Try.prog) (F := F) (K := K) (t := t) (t' := t') hx hy (by omega)
  rw [show min ((n : Int)).toNat k.bits = n from by simp; omega, Int.fdiv_eq_ediv_of_nonneg _ (Int.le_of_lt (Int.pow_pos (by decide)))] at this
  exact this
theorem suShl {t t' : TypeId} {x y : Operand} {j : IntKind} {a b v : Int} (n : Nat) (hv : a * 2 ^ n % 18446744073709551616 = v) (hx : evO L x = some (.int .u64 a) := by rfl) (hy : evO L y = some (.int j b) := by rfl) (hb : b = n := by first | rfl | omega) (hn : n ≤ 64 := by decide) : SD Try.prog F K L (.binOp .shl t x y t') (.int .u64 v) := by
  subst hb hv
  have := SD.shlK (P := Try.prog) (F := F) (K := K) (t := t) (t' := t') hx hy (by omega)
  rw [show min ((n : Int)).toNat (IntKind.bits .u64) = n from by simp [IntKind.bits]; omega, wrapu] at this
  exact this
theorem suShr32 {t t' : TypeId} {x y : Operand} {j : IntKind} {a : Int} (hx : evO L x = some (.int .u64 a) := by rfl) (hy : evO L y = some (.int j 32) := by rfl) : SD Try.prog F K L (.binOp .shr t x y t') (.int .u64 (a / 4294967296)) := suShr 32 rfl hx hy
theorem suShl32 {t t' : TypeId} {x y : Operand} {j : IntKind} {a : Int} (hx : evO L x = some (.int .u64 a) := by rfl) (hy : evO L y = some (.int j 32) := by rfl) : SD Try.prog F K L (.binOp .shl t x y t') (.int .u64 (a * 4294967296 % 18446744073709551616)) := suShl 32 rfl hx hy
theorem suShr63 {t t' : TypeId} {x y : Operand} {j : IntKind} {a : Int} (hx : evO L x = some (.int .u64 a) := by rfl) (hy : evO L y = some (.int j 63) := by rfl) : SD Try.prog F K L (.binOp .shr t x y t') (.int .u64 (a / 9223372036854775808)) := suShr 63 rfl hx hy
theorem suShl1 {t t' : TypeId} {x y : Operand} {j : IntKind} {a : Int} (hx : evO L x = some (.int .u64 a) := by rfl) (hy : evO L y = some (.int j 1) := by rfl) : SD Try.prog F K L (.binOp .shl t x y t') (.int .u64 (a * 2 % 18446744073709551616)) := suShl 1 rfl hx hy
theorem si63 {t t' : TypeId} {x y : Operand} {a : Int} (hx : evO L x = some (.int .i64 a) := by rfl) (hy : evO L y = some (.int .i64 63) := by rfl) (h0 : 0 ≤ a := by omega) (h1 : a < 9223372036854775808 := by omega) : SD Try.prog F K L (.binOp .and t x y t') (.int .i64 (a % 64)) := sbAnd (i64_and63 a h0 h1) hx hy
/-- an int as another kind that holds it -/
theorem suC {s d : TypeId} {x : Operand} {i j : Ty} {k k' : IntKind} {a : Int} (hi : Θ.lookup s = some i := by rfl) (hj : Θ.lookup d = some j := by rfl) (hk : i.k = .int k := by rfl) (hk' : j.k = .int k' := by rfl) (hx : evO L x = some (.int k a) := by rfl) (hw : k'.wrap a = a := by first | exact wraps_u64 _ (by omega) (by omega) | exact wrap_i64 (by omega) (by omega)) : SD Try.prog F K L (.convert s d x) (.int k' a) := by
  refine O ?_
  simp [dOp, hi, hj, hx, hk, hk', dConv, hw]
end
section
variable {F : Mem} {K : Own} {L : Slots}
theorem und_bool {t : TypeId} {ti : Ty} (ht : Θ.lookup t = some ti) (hk : ti.k = .bool) : Try.prog.underlying t = some .bool := by
  obtain ⟨d, hd, hkd⟩ := (tab_ty hT ht).und
  rw [hk] at hkd
  cases d <;> first | exact hd | (simp [kindB] at hkd; done)
theorem sbEq {t t' : TypeId} {x y : Operand} {ti : Ty} {a b : Bool} (ht : Θ.lookup t = some ti := by rfl) (hk : ti.k = .bool := by rfl) (hx : evO L x = some (.bool a) := by rfl) (hy : evO L y = some (.bool b) := by rfl) : SD Try.prog F K L (.binOp .eql t x y t') (.bool (a == b)) := by
  intro ι ρ he o' ho w _
  obtain ⟨dst, op, type, pos, after, guard⟩ := o'
  simp only at ho
  subst ho
  simp [execOp, he _ _ hx, he _ _ hy, binOp, eqGuard, run_equal_bool w t a b (und_bool ht hk)]
theorem sbNe {t t' : TypeId} {x y : Operand} {ti : Ty} {a b : Bool} (ht : Θ.lookup t = some ti := by rfl) (hk : ti.k = .bool := by rfl) (hx : evO L x = some (.bool a) := by rfl) (hy : evO L y = some (.bool b) := by rfl) : SD Try.prog F K L (.binOp .neq t x y t') (.bool (a != b)) := by
  intro ι ρ he o' ho w _
  obtain ⟨dst, op, type, pos, after, guard⟩ := o'
  simp only at ho
  subst ho
  simp [execOp, he _ _ hx, he _ _ hy, binOp, eqGuard, bne, run_equal_bool w t a b (und_bool ht hk)]
end
def i64ok (x : Int) : Prop := -9223372036854775808 ≤ x ∧ x ≤ 9223372036854775807
def amt (x : Int) : Int := if x < 0 then -x else x
theorem amt_bd {x : Int} (h : i64ok x) : 0 ≤ amt x ∧ amt x ≤ 9223372036854775808 := by unfold amt; unfold i64ok at h; split <;> omega
theorem mul_amt (a b : Int) : amt a * amt b = if (decide (a < 0) != decide (b < 0)) = true then -(a * b) else a * b := by
  unfold amt
  by_cases ha : a < 0 <;> by_cases hb : b < 0 <;> simp [ha, hb, Int.neg_mul, Int.mul_neg]
theorem prod_lt {a b : Int} (ha : i64ok a) (hb : i64ok b) : 0 ≤ amt a * amt b ∧ amt a * amt b ≤ 85070591730234615865843651857942052864 := by
  have h1 := amt_bd ha; have h2 := amt_bd hb
  constructor
  · exact Int.mul_nonneg h1.1 h2.1
  · have := Int.mul_le_mul h1.2 h2.2 h2.1 (by omega)
    omega
def keepS (x : Int) : Int × Bool := if -1099511627776 ≤ x ∧ x ≤ 1099511627776 then (x, true) else (0, false)
/-- the quotient, rounded down, if it is in -/
def floorS (a b c : Int) : Int × Bool := if c < 1 then (0, false) else keepS (a * b / c)
/-- the quotient, rounded to the nearest (of two, the greater), if it is in -/
def scaleS (a b c : Int) : Int × Bool := if c < 1 then (0, false) else keepS ((2 * (a * b) + c) / (2 * c))
end Go.Proofs.Ytbeblgjibfoanaa.Am
