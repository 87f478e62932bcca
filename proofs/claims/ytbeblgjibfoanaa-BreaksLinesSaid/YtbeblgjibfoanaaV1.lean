/- Contracts: the reference's numbers -/
import Derived.Test.YtbeblgjibfoanaaN1
namespace Go.Proofs.Ytbeblgjibfoanaa.Am
set_option linter.unusedSimpArgs false
set_option linter.unusedVariables false
set_option maxRecDepth 100000
set_option maxHeartbeats 4000000
open Go Go.RowKit
theorem r01In_C (F : Mem) (x : Int) : C0 Try.prog 70 [.int .i64 x] F (.bool (decide (-1099511627776 ≤ x ∧ x ≤ 1099511627776))) := by
  refine C.go hT Try.func70 Try.ntmps70 ?_
  refine sq ?_
  refine rg ?_
  refine st (h := O) ?_
  refine nl ?_
  refine sq ?_
  refine rg ?_
  iterate 3 (refine st (h := O) ?_)
  refine gD (fun g5 => ?_) (fun g5 => ?_)
  · refine sg (h := O) ?_
    refine sg (h := O) ?_
    iterate 2 (refine st (h := O) ?_)
    refine nl ?_
    refine rt ⟨?_, rfl⟩
    simp only [Value.bool.injEq, eq_comm (a := false), decide_eq_true_eq, decide_eq_false_iff_not, decide_eq_decide]; omega
  · refine sp ?_
    refine sp ?_
    iterate 2 (refine st (h := O) ?_)
    refine nl ?_
    refine rt ⟨?_, rfl⟩
    simp only [Value.bool.injEq, eq_comm (a := false), decide_eq_true_eq, decide_eq_false_iff_not, decide_eq_decide]; omega
theorem told_C (F : Mem) (x : Int) : C0 Try.prog 66 [.int .i64 x] F (.tuple #[.int .i64 (keepS x).1, .bool (keepS x).2]) := by
  refine C.go hT Try.func66 Try.ntmps66 ?_
  refine sq ?_
  refine rg ?_
  iterate 2 (refine st (h := O) ?_)
  refine nl ?_
  iterate 2 (refine sq ?_)
  refine rg ?_
  refine st (h := O) ?_
  refine cl (h := by exact fun ι hV hl => r01In_C _ _) ?_
  refine st (h := O) ?_
  refine nl ?_
  refine cB (fun c0 => ?_) (fun c0 => ?_)
  · refine sq ?_
    refine rg ?_
    iterate 2 (refine st (h := O) ?_)
    refine nl ?_
    have h : ¬ (-1099511627776 ≤ x ∧ x ≤ 1099511627776) := of_decide_eq_false (by simpa only [Bool.not_eq_true'] using c0)
    exact rt ⟨by rw [keepS, if_neg h], rfl⟩
  · have h : (-1099511627776 ≤ x ∧ x ≤ 1099511627776) := of_decide_eq_true (by simpa only [Bool.not_eq_false'] using c0)
    refine sk ?_
    refine sq ?_
    refine rg ?_
    iterate 3 (refine st (h := O) ?_)
    refine nl ?_
    exact rt ⟨by rw [keepS, if_pos h], rfl⟩
theorem size_C (F : Mem) (x : Int) (hx : i64ok x) : C0 Try.prog 67 [.int .i64 x] F (.tuple #[.int .u64 (amt x), .bool (decide (x < 0))]) := by
  unfold i64ok at hx
  refine C.go hT Try.func67 Try.ntmps67 ?_
  refine sq ?_
  refine rg ?_
  iterate 2 (refine st (h := O) ?_)
  refine nl ?_
  iterate 2 (refine sq ?_)
  refine rg ?_
  iterate 2 (refine st (h := O) ?_)
  refine nl ?_
  refine cD (fun c0 => ?_) (fun c0 => ?_)
  · refine sq ?_
    refine rg ?_
    refine st (h := O) ?_
    refine st (h := sdA) ?_
    refine st (h := sdN) ?_
    refine st (h := suC) ?_
    refine st (h := suA) ?_
    iterate 2 (refine st (h := O) ?_)
    refine nl ?_
    refine rt ⟨?_, rfl⟩
    rw [amt, if_pos c0, show -(x + 1) + 1 = -x from by omega]; simp [c0]
  · refine sk ?_
    refine sq ?_
    refine rg ?_
    refine st (h := O) ?_
    refine st (h := suC) ?_
    iterate 2 (refine st (h := O) ?_)
    refine nl ?_
    refine rt ⟨?_, rfl⟩
    rw [amt, if_neg c0]; simp [c0]
theorem product_C (F : Mem) (a b : Int) (ha0 : 0 ≤ a) (ha : a < 18446744073709551616) (hb0 : 0 ≤ b) (hb : b < 18446744073709551616) : C0 Try.prog 68 [.int .u64 a, .int .u64 b] F (.tuple #[.int .u64 (a * b / 18446744073709551616), .int .u64 (a * b % 18446744073709551616)]) := by
  have p11 := mul_bd (x := a / 4294967296) (y := b / 4294967296) (by omega) (by omega) (by omega) (by omega)
  have p10 := mul_bd (x := a / 4294967296) (y := b % 4294967296) (by omega) (by omega) (by omega) (by omega)
  have p01 := mul_bd (x := a % 4294967296) (y := b / 4294967296) (by omega) (by omega) (by omega) (by omega)
  have p00 := mul_bd (x := a % 4294967296) (y := b % 4294967296) (by omega) (by omega) (by omega) (by omega)
  have hs := split_mul a b
  have hm := mul_hi_lo _ _ _ _ _ hs p11.1 p11.2 p10.1 p10.2 p01.1 p01.2 p00.1 p00.2 (mul_lt_sq ha0 ha hb0 hb).2
  rw [← hm.1, ← hm.2]
  clear hm
  have hq : a * b < 340282366920938463463374607431768211456 := (mul_lt_sq ha0 ha hb0 hb).2
  refine C.go hT Try.func68 Try.ntmps68 ?_
  refine sq ?_
  refine rg ?_
  iterate 2 (refine st (h := O) ?_)
  refine nl ?_
  refine sq ?_
  refine rg ?_
  refine st (h := O) ?_
  refine st (h := suAnd32) ?_
  refine st (h := O) ?_
  refine st (h := suShr32) ?_
  iterate 2 (refine st (h := O) ?_)
  refine nl ?_
  refine sq ?_
  refine rg ?_
  refine st (h := O) ?_
  refine st (h := suAnd32) ?_
  refine st (h := O) ?_
  refine st (h := suShr32) ?_
  iterate 2 (refine st (h := O) ?_)
  refine nl ?_
  refine sq ?_
  refine rg ?_
  iterate 2 (refine st (h := O) ?_)
  refine st (h := suM) ?_
  refine st (h := O) ?_
  refine nl ?_
  refine sq ?_
  refine rg ?_
  iterate 2 (refine st (h := O) ?_)
  refine st (h := suM) ?_
  refine st (h := O) ?_
  refine st (h := suShr32) ?_
  refine st (h := suA) ?_
  refine st (h := O) ?_
  refine nl ?_
  refine sq ?_
  refine rg ?_
  refine st (h := O) ?_
  refine st (h := suAnd32) ?_
  iterate 2 (refine st (h := O) ?_)
  refine st (h := suM) ?_
  refine st (h := suA) ?_
  refine st (h := O) ?_
  refine nl ?_
  refine sq ?_
  refine rg ?_
  iterate 2 (refine st (h := O) ?_)
  refine st (h := suM) ?_
  refine st (h := O) ?_
  refine st (h := suShr32) ?_
  refine st (h := suA) ?_
  refine st (h := O) ?_
  refine st (h := suShr32) ?_
  refine st (h := suA) ?_
  refine st (h := O) ?_
  refine st (h := suShl32) ?_
  refine st (h := O) ?_
  refine st (h := suAnd32) ?_
  refine st (h := suOr32) ?_
  iterate 2 (refine st (h := O) ?_)
  refine nl ?_
  refine rt ⟨?_, rfl⟩
  rw [show ∀ w : Int, w * 4294967296 % 18446744073709551616 = w % 4294967296 * 4294967296 from fun w => by omega]
theorem divide_C (F : Mem) (hi lo c : Int) (h0 : 0 ≤ hi) (h1 : hi < 18446744073709551616) (l0 : 0 ≤ lo) (l1 : lo < 18446744073709551616) (hc : 0 < c) (hc1 : c < 9223372036854775808) : C0 Try.prog 69 [.int .u64 hi, .int .u64 lo, .int .u64 c] F
    (.tuple #[.int .u64 ((hi * 18446744073709551616 + lo) / c / 18446744073709551616), .int .u64 ((hi * 18446744073709551616 + lo) / c % 18446744073709551616), .int .u64 ((hi * 18446744073709551616 + lo) % c)]) := by
  have hD : 0 ≤ hi * 18446744073709551616 + lo := by omega
  have hz : (hi * 18446744073709551616 + lo) / 2 ^ 128 = 0 := Int.ediv_eq_zero_of_lt hD (by have : (2 : Int) ^ 128 = 340282366920938463463374607431768211456 := rfl; rw [this]; omega)
  refine C.go hT Try.func69 Try.ntmps69 ?_
  refine sq ?_
  refine rg ?_
  iterate 3 (refine st (h := O) ?_)
  refine nl ?_
  refine sq ?_
  refine rg ?_
  iterate 3 (refine st (h := O) ?_)
  refine nl ?_
  iterate 2 (refine sq ?_)
  refine rg ?_
  refine st (h := O) ?_
  refine nl ?_
  refine bl ?_
  refine J.loop4 (α := Int) (β := Int) (γ := Int) (δ := Int) (fun i qh ql r => -1 ≤ i ∧ i ≤ 127 ∧ 0 ≤ qh ∧ 0 ≤ ql ∧ ql < 18446744073709551616 ∧ qh * 18446744073709551616 + ql = (hi * 18446744073709551616 + lo) / 2 ^ (i + 1).toNat / c ∧ r = (hi * 18446744073709551616 + lo) / 2 ^ (i + 1).toNat % c) (fun i qh ql r => [(9, .int .u64 qh), (10, .int .u64 ql), (11, .int .u64 r), (12, .int .i64 i)]) [(0, _), (1, _), (2, _)] (fun i qh ql r => []) [] (fun i qh ql r => (i + 1).toNat) (127) (0) (0) (0) (by exact ⟨rfl, rfl, rfl, rfl, trivial⟩) (by exact ⟨rfl, rfl, rfl, trivial⟩) (by exact trivial) ?_ ?_
  · exact ⟨by omega, by omega, by omega, by omega, by omega, by rw [show ((127 : Int) + 1).toNat = 128 from rfl, hz]; simp, by rw [show ((127 : Int) + 1).toNat = 128 from rfl, hz]; simp⟩
  · intro i qh ql r L1 K1 e1 e2 hI
    dsimp only [apV, apR, List.cons_append, List.nil_append] at e1 e2
    subst e1 e2
    obtain ⟨hi0, hi1, hq, hl, hl1, he, hr⟩ := hI
    iterate 2 (refine sq ?_)
    refine rg ?_
    iterate 2 (refine st (h := O) ?_)
    refine nl ?_
    refine cD (fun c0 => ?_) (fun c0 => ?_)
    · obtain ⟨n, rfl⟩ := Int.eq_ofNat_of_zero_le (show (0 : Int) ≤ i by omega)
      rw [show ((n : Int) + 1).toNat = n + 1 from by omega] at he hr
      have hhalf := half_pow (hi * 18446744073709551616 + lo) n
      have hb0 : 0 ≤ (hi * 18446744073709551616 + lo) / 2 ^ n % 2 := by omega
      have hb1 : (hi * 18446744073709551616 + lo) / 2 ^ n % 2 < 2 := by omega
      have hst := bit_step (P := (hi * 18446744073709551616 + lo) / 2 ^ (n + 1)) hc hb0 hb1
      rw [← hhalf] at hst
      have hr0 := Int.emod_nonneg ((hi * 18446744073709551616 + lo) / 2 ^ (n + 1)) (by omega : c ≠ 0)
      have hr1 := Int.emod_lt_of_pos ((hi * 18446744073709551616 + lo) / 2 ^ (n + 1)) hc
      have hP1 := Int.ediv_nonneg hD (Int.le_of_lt (show (0 : Int) < 2 ^ n from Int.pow_pos (by decide)))
      have hP2 := Int.ediv_le_self (2 ^ n) hD
      have hP3 := Int.ediv_le_self c hP1
      rw [← he, ← hr] at hst
      rw [← hr] at hr0 hr1
      have hv1 := Int.ediv_nonneg l0 (Int.le_of_lt (show (0 : Int) < 2 ^ (n % 64) from Int.pow_pos (by decide)))
      have hv2 := Int.ediv_le_self (2 ^ (n % 64)) l0
      have hv3 := Int.ediv_nonneg h0 (Int.le_of_lt (show (0 : Int) < 2 ^ (n - 64) from Int.pow_pos (by decide)))
      have hv4 := Int.ediv_le_self (2 ^ (n - 64)) h0
      have hlow : ¬ (n : Int) ≥ 64 → lo / 2 ^ (n % 64) % 2 = (hi * 18446744073709551616 + lo) / 2 ^ n % 2 := fun h => by rw [Nat.mod_eq_of_lt (by omega)]; exact low_bit n (by omega)
      have hhigh : (n : Int) ≥ 64 → hi / 2 ^ (n - 64) % 2 = (hi * 18446744073709551616 + lo) / 2 ^ n % 2 := fun h => by rw [high_bit l0 l1 n (by omega)]
      have hq2 : qh * 2 < 18446744073709551616 := by
        have := hst.1
        split at this <;> omega
      refine sk ?_
      refine sq ?_
      refine bl ?_
      refine sq ?_
      refine rg ?_
      iterate 2 (refine st (h := O) ?_)
      refine st (h := si63) ?_
      refine st (h := suC) ?_
      refine st (h := suShr (n % 64) rfl (hb := by omega) (hn := by simp [IntKind.bits]; omega)) ?_
      refine st (h := suAnd1) ?_
      refine st (h := O) ?_
      refine nl ?_
      iterate 2 (refine sq ?_)
      refine rg ?_
      iterate 2 (refine st (h := O) ?_)
      refine nl ?_
      refine cD (fun c1 => ?_) (fun c1 => ?_)
      · have hbit := hhigh (by omega)
        refine rg ?_
        iterate 2 (refine st (h := O) ?_)
        refine st (h := sdS) ?_
        refine st (h := suC) ?_
        refine st (h := suShr (n - 64) rfl (hb := by omega) (hn := by simp [IntKind.bits]; omega)) ?_
        refine st (h := suAnd1) ?_
        refine st (h := O) ?_
        refine nl ?_
        refine sq ?_
        rw [hbit]
        generalize (hi * 18446744073709551616 + lo) / 2 ^ n % 2 = b at *
        refine rg ?_
        refine st (h := O) ?_
        refine st (h := suShl1) ?_
        refine st (h := O) ?_
        refine st (h := suOr1) ?_
        refine st (h := O) ?_
        refine nl ?_
        refine sq ?_
        refine rg ?_
        refine st (h := O) ?_
        refine st (h := suShl1) ?_
        refine st (h := O) ?_
        refine st (h := suShr63) ?_
        refine st (h := suOr1) ?_
        refine st (h := O) ?_
        refine nl ?_
        refine sq ?_
        refine rg ?_
        refine st (h := O) ?_
        refine st (h := suShl1) ?_
        refine st (h := O) ?_
        refine nl ?_
        refine sq ?_
        refine rg ?_
        iterate 3 (refine st (h := O) ?_)
        refine nl ?_
        refine cD (fun c2 => ?_) (fun c2 => ?_)
        · rw [if_pos (by omega), if_pos (by omega)] at hst
          refine sq ?_
          refine rg ?_
          iterate 2 (refine st (h := O) ?_)
          refine st (h := suS) ?_
          refine st (h := O) ?_
          refine nl ?_
          refine rg ?_
          refine st (h := O) ?_
          refine st (h := suOr1) ?_
          refine st (h := O) ?_
          refine nl ?_
          refine bk ?_
          refine rg ?_
          refine st (h := O) ?_
          refine st (h := sdS) ?_
          refine st (h := O) ?_
          refine nl ?_
          refine bk4 (_) (_) (_) (_) (by exact ⟨rfl, rfl, rfl, rfl, trivial⟩) (by exact ⟨rfl, rfl, rfl, trivial⟩) (by exact trivial) ?_ ?_
          · omega
          · rw [show ((n : Int) - 1 + 1).toNat = n from by omega]
            exact ⟨by omega, by omega, by omega, by omega, by omega, by omega, by omega⟩
        · rw [if_neg (by omega), if_neg (by omega)] at hst
          refine sk ?_
          refine bk ?_
          refine rg ?_
          refine st (h := O) ?_
          refine st (h := sdS) ?_
          refine st (h := O) ?_
          refine nl ?_
          refine bk4 (_) (_) (_) (_) (by exact ⟨rfl, rfl, rfl, rfl, trivial⟩) (by exact ⟨rfl, rfl, rfl, trivial⟩) (by exact trivial) ?_ ?_
          · omega
          · rw [show ((n : Int) - 1 + 1).toNat = n from by omega]
            exact ⟨by omega, by omega, by omega, by omega, by omega, by omega, by omega⟩
      · have hbit := hlow (by omega)
        refine sk ?_
        refine sq ?_
        rw [hbit]
        generalize (hi * 18446744073709551616 + lo) / 2 ^ n % 2 = b at *
        refine rg ?_
        refine st (h := O) ?_
        refine st (h := suShl1) ?_
        refine st (h := O) ?_
        refine st (h := suOr1) ?_
        refine st (h := O) ?_
        refine nl ?_
        refine sq ?_
        refine rg ?_
        refine st (h := O) ?_
        refine st (h := suShl1) ?_
        refine st (h := O) ?_
        refine st (h := suShr63) ?_
        refine st (h := suOr1) ?_
        refine st (h := O) ?_
        refine nl ?_
        refine sq ?_
        refine rg ?_
        refine st (h := O) ?_
        refine st (h := suShl1) ?_
        refine st (h := O) ?_
        refine nl ?_
        refine sq ?_
        refine rg ?_
        iterate 3 (refine st (h := O) ?_)
        refine nl ?_
        refine cD (fun c2 => ?_) (fun c2 => ?_)
        · rw [if_pos (by omega), if_pos (by omega)] at hst
          refine sq ?_
          refine rg ?_
          iterate 2 (refine st (h := O) ?_)
          refine st (h := suS) ?_
          refine st (h := O) ?_
          refine nl ?_
          refine rg ?_
          refine st (h := O) ?_
          refine st (h := suOr1) ?_
          refine st (h := O) ?_
          refine nl ?_
          refine bk ?_
          refine rg ?_
          refine st (h := O) ?_
          refine st (h := sdS) ?_
          refine st (h := O) ?_
          refine nl ?_
          refine bk4 (_) (_) (_) (_) (by exact ⟨rfl, rfl, rfl, rfl, trivial⟩) (by exact ⟨rfl, rfl, rfl, trivial⟩) (by exact trivial) ?_ ?_
          · omega
          · rw [show ((n : Int) - 1 + 1).toNat = n from by omega]
            exact ⟨by omega, by omega, by omega, by omega, by omega, by omega, by omega⟩
        · rw [if_neg (by omega), if_neg (by omega)] at hst
          refine sk ?_
          refine bk ?_
          refine rg ?_
          refine st (h := O) ?_
          refine st (h := sdS) ?_
          refine st (h := O) ?_
          refine nl ?_
          refine bk4 (_) (_) (_) (_) (by exact ⟨rfl, rfl, rfl, rfl, trivial⟩) (by exact ⟨rfl, rfl, rfl, trivial⟩) (by exact trivial) ?_ ?_
          · omega
          · rw [show ((n : Int) - 1 + 1).toNat = n from by omega]
            exact ⟨by omega, by omega, by omega, by omega, by omega, by omega, by omega⟩
    · obtain rfl : i = -1 := by omega
      simp only [show ((-1 : Int) + 1).toNat = 0 from rfl, Int.pow_zero, Int.ediv_one] at he hr
      refine ex ?_
      refine sq ?_
      refine rg ?_
      iterate 6 (refine st (h := O) ?_)
      refine nl ?_
      refine rt ⟨?_, rfl⟩
      rw [← he, ← hr, show (qh * 18446744073709551616 + ql) / 18446744073709551616 = qh from by omega, show (qh * 18446744073709551616 + ql) % 18446744073709551616 = ql from by omega]
def qtell (P c : Int) : Int := if P / c ≤ 1099511627776 then P / c else 1099511627777
theorem parts_C (F : Mem) (a b c : Int) (ha : i64ok a) (hb : i64ok b) (hc : 1 ≤ c) (hc1 : c ≤ 9223372036854775807) : C0 Try.prog 65 [.int .i64 a, .int .i64 b, .int .i64 c] F
    (.tuple #[.bool ((decide (a < 0) != decide (b < 0)) && decide (amt a * amt b ≠ 0)), .int .i64 (qtell (amt a * amt b) c), .int .u64 (amt a * amt b % c)]) := by
  have hp := prod_lt ha hb
  have h1 := amt_bd ha; have h2 := amt_bd hb
  have hs : ∀ G, C0 Try.prog 67 [.int .i64 a] G (.tuple #[.int .u64 (amt a), .bool (decide (a < 0))]) := fun G => size_C G a ha
  have ht : ∀ G, C0 Try.prog 67 [.int .i64 b] G (.tuple #[.int .u64 (amt b), .bool (decide (b < 0))]) := fun G => size_C G b hb
  have hpr : ∀ G, C0 Try.prog 68 [.int .u64 (amt a), .int .u64 (amt b)] G (.tuple #[.int .u64 (amt a * amt b / 18446744073709551616), .int .u64 (amt a * amt b % 18446744073709551616)]) := fun G => product_C G _ _ h1.1 (by omega) h2.1 (by omega)
  unfold i64ok at ha hb
  generalize amt a = x at *
  generalize amt b = y at *
  generalize x * y = P at *
  have hdv : ∀ G, C0 Try.prog 69 [.int .u64 (P / 18446744073709551616), .int .u64 (P % 18446744073709551616), .int .u64 c] G (.tuple #[.int .u64 (P / c / 18446744073709551616), .int .u64 (P / c % 18446744073709551616), .int .u64 (P % c)]) := fun G => by
    have := divide_C G (P / 18446744073709551616) (P % 18446744073709551616) c (by omega) (by omega) (by omega) (by omega) (by omega) (by omega)
    rwa [show P / 18446744073709551616 * 18446744073709551616 + P % 18446744073709551616 = P from by omega] at this
  have hq0 : 0 ≤ P / c := Int.ediv_nonneg hp.1 (by omega)
  generalize hq : P / c = q at *
  generalize P % c = r at *
  have hqt : qtell P c = if q ≤ 1099511627776 then q else 1099511627777 := by unfold qtell; rw [hq]
  rw [hqt]
  cases hsa : decide (a < 0) <;> cases htb : decide (b < 0)
  all_goals
    rw [hsa] at hs
    rw [htb] at ht
    refine C.go hT Try.func65 Try.ntmps65 ?_
    refine sq ?_
    refine rg ?_
    iterate 3 (refine st (h := O) ?_)
    refine nl ?_
    refine sq ?_
    refine rg ?_
    refine st (h := O) ?_
    refine cl (h := by exact fun ι hV hl => hs _) ?_
    iterate 5 (refine st (h := O) ?_)
    refine nl ?_
    refine sq ?_
    refine rg ?_
    refine st (h := O) ?_
    refine cl (h := by exact fun ι hV hl => ht _) ?_
    iterate 5 (refine st (h := O) ?_)
    refine nl ?_
    refine sq ?_
    refine rg ?_
    iterate 2 (refine st (h := O) ?_)
    refine cl (h := by exact fun ι hV hl => hpr _) ?_
    iterate 5 (refine st (h := O) ?_)
    refine nl ?_
    refine sq ?_
    refine rg ?_
    iterate 3 (refine st (h := O) ?_)
    refine st (h := suC) ?_
    refine cl (h := by exact fun ι hV hl => hdv _) ?_
    iterate 7 (refine st (h := O) ?_)
    refine nl ?_
    refine sq ?_
    refine rg ?_
    refine st (h := O) ?_
    refine nl ?_
    iterate 2 (refine sq ?_)
    refine rg ?_
    iterate 3 (refine st (h := O) ?_)
    refine gD (fun g46 => ?_) (fun g46 => ?_)
    · refine sg (h := O) ?_
      refine sg (h := O) ?_
      refine st (h := O) ?_
      refine nl ?_
      refine cD (fun c0 => ?_) (fun c0 => ?_)
      · refine rg ?_
        refine st (h := O) ?_
        refine st (h := suC) ?_
        refine st (h := O) ?_
        refine nl ?_
        refine sq ?_
        refine rg ?_
        iterate 2 (refine st (h := O) ?_)
        refine st (h := sbNe) ?_
        refine st (h := O) ?_
        refine gB (fun g55 => ?_) (fun g55 => ?_)
        · refine sg (h := O) ?_
          iterate 2 (refine sg (h := O) ?_)
          refine gN (fun g58 => ?_) (fun g58 => ?_)
          · refine sp ?_
            refine sp ?_
            refine sg (h := O) ?_
            iterate 6 (refine st (h := O) ?_)
            refine nl ?_
            refine rt ⟨?_, rfl⟩
            refine tup3 (congrArg Value.bool ?_) (congrArg (Value.int .i64) ?_) rfl
            · first | exact absurd g55 (by decide) | rfl | (rw [Bool.eq_iff_iff]; simp; omega)
            · split <;> omega
          · refine sg (h := O) ?_
            iterate 2 (refine sg (h := O) ?_)
            iterate 6 (refine st (h := O) ?_)
            refine nl ?_
            refine rt ⟨?_, rfl⟩
            refine tup3 (congrArg Value.bool ?_) (congrArg (Value.int .i64) ?_) rfl
            · first | exact absurd g55 (by decide) | rfl | (rw [Bool.eq_iff_iff]; simp; omega)
            · split <;> omega
        · refine sp ?_
          iterate 2 (refine sp ?_)
          iterate 2 (refine su ?_)
          refine sp ?_
          iterate 6 (refine st (h := O) ?_)
          refine nl ?_
          refine rt ⟨?_, rfl⟩
          refine tup3 (congrArg Value.bool ?_) (congrArg (Value.int .i64) ?_) rfl
          · first | exact absurd g55 (by decide) | rfl | (rw [Bool.eq_iff_iff]; simp; omega)
          · split <;> omega
      · refine sk ?_
        refine sq ?_
        refine rg ?_
        iterate 2 (refine st (h := O) ?_)
        refine st (h := sbNe) ?_
        refine st (h := O) ?_
        refine gB (fun g55 => ?_) (fun g55 => ?_)
        · refine sg (h := O) ?_
          iterate 2 (refine sg (h := O) ?_)
          refine gN (fun g58 => ?_) (fun g58 => ?_)
          · refine sp ?_
            refine sp ?_
            refine sg (h := O) ?_
            iterate 6 (refine st (h := O) ?_)
            refine nl ?_
            refine rt ⟨?_, rfl⟩
            refine tup3 (congrArg Value.bool ?_) (congrArg (Value.int .i64) ?_) rfl
            · first | exact absurd g55 (by decide) | rfl | (rw [Bool.eq_iff_iff]; simp; omega)
            · split <;> omega
          · refine sg (h := O) ?_
            iterate 2 (refine sg (h := O) ?_)
            iterate 6 (refine st (h := O) ?_)
            refine nl ?_
            refine rt ⟨?_, rfl⟩
            refine tup3 (congrArg Value.bool ?_) (congrArg (Value.int .i64) ?_) rfl
            · first | exact absurd g55 (by decide) | rfl | (rw [Bool.eq_iff_iff]; simp; omega)
            · split <;> omega
        · refine sp ?_
          iterate 2 (refine sp ?_)
          iterate 2 (refine su ?_)
          refine sp ?_
          iterate 6 (refine st (h := O) ?_)
          refine nl ?_
          refine rt ⟨?_, rfl⟩
          refine tup3 (congrArg Value.bool ?_) (congrArg (Value.int .i64) ?_) rfl
          · first | exact absurd g55 (by decide) | rfl | (rw [Bool.eq_iff_iff]; simp; omega)
          · split <;> omega
    · refine sp ?_
      refine sp ?_
      refine st (h := O) ?_
      refine nl ?_
      refine cF ?_
      refine sk ?_
      refine sq ?_
      refine rg ?_
      iterate 2 (refine st (h := O) ?_)
      refine st (h := sbNe) ?_
      refine st (h := O) ?_
      refine gB (fun g55 => ?_) (fun g55 => ?_)
      · refine sg (h := O) ?_
        iterate 2 (refine sg (h := O) ?_)
        refine gN (fun g58 => ?_) (fun g58 => ?_)
        · refine sp ?_
          refine sp ?_
          refine sg (h := O) ?_
          iterate 6 (refine st (h := O) ?_)
          refine nl ?_
          refine rt ⟨?_, rfl⟩
          refine tup3 (congrArg Value.bool ?_) (congrArg (Value.int .i64) ?_) rfl
          · first | exact absurd g55 (by decide) | rfl | (rw [Bool.eq_iff_iff]; simp; omega)
          · split <;> omega
        · refine sg (h := O) ?_
          iterate 2 (refine sg (h := O) ?_)
          iterate 6 (refine st (h := O) ?_)
          refine nl ?_
          refine rt ⟨?_, rfl⟩
          refine tup3 (congrArg Value.bool ?_) (congrArg (Value.int .i64) ?_) rfl
          · first | exact absurd g55 (by decide) | rfl | (rw [Bool.eq_iff_iff]; simp; omega)
          · split <;> omega
      · refine sp ?_
        iterate 2 (refine sp ?_)
        iterate 2 (refine su ?_)
        refine sp ?_
        iterate 6 (refine st (h := O) ?_)
        refine nl ?_
        refine rt ⟨?_, rfl⟩
        refine tup3 (congrArg Value.bool ?_) (congrArg (Value.int .i64) ?_) rfl
        · first | exact absurd g55 (by decide) | rfl | (rw [Bool.eq_iff_iff]; simp; omega)
        · split <;> omega
theorem neg_div {P c : Int} (hc : 0 < c) : -P / c = if P % c = 0 then -(P / c) else -(P / c) - 1 := by
  have hd := Int.mul_ediv_add_emod P c
  have h0 := Int.emod_nonneg P (by omega : c ≠ 0)
  have h1 := Int.emod_lt_of_pos P hc
  generalize P / c = q at *
  generalize P % c = r at *
  subst hd
  split
  · rename_i h
    subst h
    rw [show -(c * q + 0) = -q * c from by grind, Int.mul_ediv_cancel _ (by omega)]
  · rw [show -(c * q + r) = (c - r) + (-q - 1) * c from by grind, Int.add_mul_ediv_right _ _ (by omega), Int.ediv_eq_zero_of_lt (by omega) (by omega)]
    omega
theorem ab_of (a b : Int) : a * b = if (decide (a < 0) != decide (b < 0)) = true then -(amt a * amt b) else amt a * amt b := by
  rw [mul_amt]
  split <;> simp
theorem keepS_out {x : Int} (h : ¬ (-1099511627776 ≤ x ∧ x ≤ 1099511627776)) : keepS x = (0, false) := by unfold keepS; rw [if_neg h]
theorem r01Floor_C (F : Mem) (a b c : Int) (ha : i64ok a) (hb : i64ok b) (hc : i64ok c) : C0 Try.prog 64 [.int .i64 a, .int .i64 b, .int .i64 c] F (.tuple #[.int .i64 (floorS a b c).1, .bool (floorS a b c).2]) := by
  by_cases c1 : c < 1
  · rw [floorS, if_pos c1]
    refine C.go hT Try.func64 Try.ntmps64 ?_
    refine sq ?_
    refine rg ?_
    iterate 2 (refine st (h := O) ?_)
    refine nl ?_
    iterate 2 (refine sq ?_)
    refine rg ?_
    iterate 2 (refine st (h := O) ?_)
    refine nl ?_
    refine cD (fun c0 => ?_) (fun c0 => ?_)
    · refine sq ?_
      refine rg ?_
      iterate 2 (refine st (h := O) ?_)
      refine nl ?_
      exact rt ⟨rfl, rfl⟩
    · exact absurd c1 c0
  · rw [floorS, if_neg c1]
    have hp := prod_lt ha hb
    have hab := ab_of a b
    have hpt : ∀ G, _ := fun G => parts_C G a b c ha hb (by omega) hc.2
    have hn := neg_div (P := amt a * amt b) (c := c) (by omega)
    have hq0 : 0 ≤ amt a * amt b / c := Int.ediv_nonneg hp.1 (by omega)
    have hz : amt a * amt b = 0 → amt a * amt b / c = 0 := by intro h; rw [h]; exact Int.zero_ediv c
    have hz2 : amt a * amt b = 0 → amt a * amt b % c = 0 := by intro h; rw [h]; exact Int.zero_emod c
    unfold i64ok at ha hb hc
    have hqt : qtell (amt a * amt b) c = if amt a * amt b / c ≤ 1099511627776 then amt a * amt b / c else 1099511627777 := rfl
    rw [hqt] at hpt
    clear hqt
    generalize (decide (a < 0) != decide (b < 0)) = s at *
    generalize hPc : amt a * amt b / c = q at *
    generalize amt a * amt b % c = r at *
    generalize amt a * amt b = P at *
    have hqb : 0 ≤ (if q ≤ 1099511627776 then q else 1099511627777) ∧ (if q ≤ 1099511627776 then q else 1099511627777) ≤ 1099511627777 := by split <;> omega
    generalize hQ : (if q ≤ 1099511627776 then q else 1099511627777) = Q at *
    refine C.go hT Try.func64 Try.ntmps64 ?_
    refine sq ?_
    refine rg ?_
    iterate 2 (refine st (h := O) ?_)
    refine nl ?_
    iterate 2 (refine sq ?_)
    refine rg ?_
    iterate 2 (refine st (h := O) ?_)
    refine nl ?_
    refine cD (fun c0 => ?_) (fun c0 => ?_)
    · exact absurd c0 c1
    · refine sk ?_
      refine sq ?_
      refine rg ?_
      iterate 3 (refine st (h := O) ?_)
      refine cl (h := by exact fun ι hV hl => hpt _) ?_
      iterate 7 (refine st (h := O) ?_)
      refine nl ?_
      iterate 2 (refine sq ?_)
      refine rg ?_
      iterate 2 (refine st (h := O) ?_)
      refine nl ?_
      refine cB (fun c1 => ?_) (fun c1 => ?_)
      · refine sq ?_
        refine rg ?_
        refine st (h := O) ?_
        refine cl (h := by exact fun ι hV hl => told_C _ _) ?_
        iterate 4 (refine st (h := O) ?_)
        refine nl ?_
        refine rt ⟨?_, rfl⟩
        have hv : a * b / c = q := by
          cases s
          · rw [hab, if_neg (by decide)]; exact hPc
          · have hP0 : P = 0 := by simpa using c1
            rw [hab, if_pos rfl, hn, if_pos (hz2 hP0), hz hP0]; rfl
        rw [hv]
        by_cases h : q ≤ 1099511627776
        · rw [if_pos h] at hQ; rw [hQ]
        · rw [if_neg h] at hQ; rw [keepS_out (x := q) (by omega), keepS_out (x := Q) (by omega)]
      · have hv : a * b / c = if r = 0 then -q else -q - 1 := by
          cases s
          · simp at c1
          · rw [hab, if_pos rfl, hn]
        refine sk ?_
        iterate 2 (refine sq ?_)
        refine rg ?_
        iterate 2 (refine st (h := O) ?_)
        refine nl ?_
        refine cN (fun c2 => ?_) (fun c2 => ?_)
        · refine rg ?_
          refine st (h := O) ?_
          refine st (h := sdA) ?_
          refine st (h := O) ?_
          refine nl ?_
          refine sq ?_
          refine rg ?_
          refine st (h := O) ?_
          refine st (h := sdN) ?_
          refine cl (h := by exact fun ι hV hl => told_C _ _) ?_
          iterate 4 (refine st (h := O) ?_)
          refine nl ?_
          refine rt ⟨?_, rfl⟩
          rw [hv]
          by_cases h : q ≤ 1099511627776
          · rw [if_pos h] at hQ; subst hQ
            first
              | (rw [if_pos c2])
              | (rw [if_neg c2, show -(q + 1) = -q - 1 from by omega])
          · rw [if_neg h] at hQ
            first
              | (rw [if_pos c2, keepS_out (x := -q) (by omega), keepS_out (x := -Q) (by omega)])
              | (rw [if_neg c2, keepS_out (x := -q - 1) (by omega), keepS_out (x := -(Q + 1)) (by omega)])
        · refine sk ?_
          refine sq ?_
          refine rg ?_
          refine st (h := O) ?_
          refine st (h := sdN) ?_
          refine cl (h := by exact fun ι hV hl => told_C _ _) ?_
          iterate 4 (refine st (h := O) ?_)
          refine nl ?_
          refine rt ⟨?_, rfl⟩
          rw [hv]
          by_cases h : q ≤ 1099511627776
          · rw [if_pos h] at hQ; subst hQ
            first
              | (rw [if_pos c2])
              | (rw [if_neg c2, show -(q + 1) = -q - 1 from by omega])
          · rw [if_neg h] at hQ
            first
              | (rw [if_pos c2, keepS_out (x := -q) (by omega), keepS_out (x := -Q) (by omega)])
              | (rw [if_neg c2, keepS_out (x := -q - 1) (by omega), keepS_out (x := -(Q + 1)) (by omega)])

end Go.Proofs.Ytbeblgjibfoanaa.Am
