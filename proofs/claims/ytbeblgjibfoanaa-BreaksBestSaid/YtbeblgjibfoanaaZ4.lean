/- Rules for walking Go functions, and contracts proved by them (V1, V2, V3, V4, B4, P6, V9, V13, P9, V10, V11, V14). -/
import Derived.Test.YtbeblgjibfoanaaZ3
namespace Go.Proofs.Ytbeblgjibfoanaa.Am
set_option linter.unusedSimpArgs false
set_option linter.unusedVariables false
set_option maxRecDepth 100000
set_option maxHeartbeats 4000000
open Go Go.RowKit
theorem r01In_C (F : Mem) (x : Int) : C0 Try.prog 70 [.int .i64 x] F (.bool (decide (-1099511627776 ≤ x ∧ x ≤ 1099511627776))) := by
  refine C.go hT Try.func70 Try.ntmps70 ?_
  refine sq ?_
  refine rg ?_
  refine st (h := O) ?_
  refine nl ?_
  refine sq ?_
  refine rg ?_
  iterate 3 (refine st (h := O) ?_)
  refine gD (fun g5 => ?_) (fun g5 => ?_)
  · refine sg (h := O) ?_
    refine sg (h := O) ?_
    iterate 2 (refine st (h := O) ?_)
    refine nl ?_
    refine rt ⟨?_, rfl⟩
    simp only [Value.bool.injEq, eq_comm (a := false), decide_eq_true_eq, decide_eq_false_iff_not, decide_eq_decide]; omega
  · refine sp ?_
    refine sp ?_
    iterate 2 (refine st (h := O) ?_)
    refine nl ?_
    refine rt ⟨?_, rfl⟩
    simp only [Value.bool.injEq, eq_comm (a := false), decide_eq_true_eq, decide_eq_false_iff_not, decide_eq_decide]; omega
theorem told_C (F : Mem) (x : Int) : C0 Try.prog 66 [.int .i64 x] F (.tuple #[.int .i64 (keepS x).1, .bool (keepS x).2]) := by
  refine C.go hT Try.func66 Try.ntmps66 ?_
  refine sq ?_
  refine rg ?_
  iterate 2 (refine st (h := O) ?_)
  refine nl ?_
  iterate 2 (refine sq ?_)
  refine rg ?_
  refine st (h := O) ?_
  refine cl (h := by exact fun ι hV hl => r01In_C _ _) ?_
  refine st (h := O) ?_
  refine nl ?_
  refine cB (fun c0 => ?_) (fun c0 => ?_)
  · refine sq ?_
    refine rg ?_
    iterate 2 (refine st (h := O) ?_)
    refine nl ?_
    have h : ¬ (-1099511627776 ≤ x ∧ x ≤ 1099511627776) := of_decide_eq_false (by simpa only [Bool.not_eq_true'] using c0)
    exact rt ⟨by rw [keepS, if_neg h], rfl⟩
  · have h : (-1099511627776 ≤ x ∧ x ≤ 1099511627776) := of_decide_eq_true (by simpa only [Bool.not_eq_false'] using c0)
    refine sk ?_
    refine sq ?_
    refine rg ?_
    iterate 3 (refine st (h := O) ?_)
    refine nl ?_
    exact rt ⟨by rw [keepS, if_pos h], rfl⟩
theorem size_C (F : Mem) (x : Int) (hx : i64ok x) : C0 Try.prog 67 [.int .i64 x] F (.tuple #[.int .u64 (amt x), .bool (decide (x < 0))]) := by
  unfold i64ok at hx
  refine C.go hT Try.func67 Try.ntmps67 ?_
  refine sq ?_
  refine rg ?_
  iterate 2 (refine st (h := O) ?_)
  refine nl ?_
  iterate 2 (refine sq ?_)
  refine rg ?_
  iterate 2 (refine st (h := O) ?_)
  refine nl ?_
  refine cD (fun c0 => ?_) (fun c0 => ?_)
  · refine sq ?_
    refine rg ?_
    refine st (h := O) ?_
    refine st (h := sdA) ?_
    refine st (h := sdN) ?_
    refine st (h := suC) ?_
    refine st (h := suA) ?_
    iterate 2 (refine st (h := O) ?_)
    refine nl ?_
    refine rt ⟨?_, rfl⟩
    rw [amt, if_pos c0, show -(x + 1) + 1 = -x from by omega]; simp [c0]
  · refine sk ?_
    refine sq ?_
    refine rg ?_
    refine st (h := O) ?_
    refine st (h := suC) ?_
    iterate 2 (refine st (h := O) ?_)
    refine nl ?_
    refine rt ⟨?_, rfl⟩
    rw [amt, if_neg c0]; simp [c0]
theorem product_C (F : Mem) (a b : Int) (ha0 : 0 ≤ a) (ha : a < 18446744073709551616) (hb0 : 0 ≤ b) (hb : b < 18446744073709551616) : C0 Try.prog 68 [.int .u64 a, .int .u64 b] F (.tuple #[.int .u64 (a * b / 18446744073709551616), .int .u64 (a * b % 18446744073709551616)]) := by
  have p11 := mul_bd (x := a / 4294967296) (y := b / 4294967296) (by omega) (by omega) (by omega) (by omega)
  have p10 := mul_bd (x := a / 4294967296) (y := b % 4294967296) (by omega) (by omega) (by omega) (by omega)
  have p01 := mul_bd (x := a % 4294967296) (y := b / 4294967296) (by omega) (by omega) (by omega) (by omega)
  have p00 := mul_bd (x := a % 4294967296) (y := b % 4294967296) (by omega) (by omega) (by omega) (by omega)
  have hs := split_mul a b
  have hm := mul_hi_lo _ _ _ _ _ hs p11.1 p11.2 p10.1 p10.2 p01.1 p01.2 p00.1 p00.2 (mul_lt_sq ha0 ha hb0 hb).2
  rw [← hm.1, ← hm.2]
  clear hm
  have hq : a * b < 340282366920938463463374607431768211456 := (mul_lt_sq ha0 ha hb0 hb).2
  refine C.go hT Try.func68 Try.ntmps68 ?_
  refine sq ?_
  refine rg ?_
  iterate 2 (refine st (h := O) ?_)
  refine nl ?_
  refine sq ?_
  refine rg ?_
  refine st (h := O) ?_
  refine st (h := suAnd32) ?_
  refine st (h := O) ?_
  refine st (h := suShr32) ?_
  iterate 2 (refine st (h := O) ?_)
  refine nl ?_
  refine sq ?_
  refine rg ?_
  refine st (h := O) ?_
  refine st (h := suAnd32) ?_
  refine st (h := O) ?_
  refine st (h := suShr32) ?_
  iterate 2 (refine st (h := O) ?_)
  refine nl ?_
  refine sq ?_
  refine rg ?_
  iterate 2 (refine st (h := O) ?_)
  refine st (h := suM) ?_
  refine st (h := O) ?_
  refine nl ?_
  refine sq ?_
  refine rg ?_
  iterate 2 (refine st (h := O) ?_)
  refine st (h := suM) ?_
  refine st (h := O) ?_
  refine st (h := suShr32) ?_
  refine st (h := suA) ?_
  refine st (h := O) ?_
  refine nl ?_
  refine sq ?_
  refine rg ?_
  refine st (h := O) ?_
  refine st (h := suAnd32) ?_
  iterate 2 (refine st (h := O) ?_)
  refine st (h := suM) ?_
  refine st (h := suA) ?_
  refine st (h := O) ?_
  refine nl ?_
  refine sq ?_
  refine rg ?_
  iterate 2 (refine st (h := O) ?_)
  refine st (h := suM) ?_
  refine st (h := O) ?_
  refine st (h := suShr32) ?_
  refine st (h := suA) ?_
  refine st (h := O) ?_
  refine st (h := suShr32) ?_
  refine st (h := suA) ?_
  refine st (h := O) ?_
  refine st (h := suShl32) ?_
  refine st (h := O) ?_
  refine st (h := suAnd32) ?_
  refine st (h := suOr32) ?_
  iterate 2 (refine st (h := O) ?_)
  refine nl ?_
  refine rt ⟨?_, rfl⟩
  rw [show ∀ w : Int, w * 4294967296 % 18446744073709551616 = w % 4294967296 * 4294967296 from fun w => by omega]
theorem divide_C (F : Mem) (hi lo c : Int) (h0 : 0 ≤ hi) (h1 : hi < 18446744073709551616) (l0 : 0 ≤ lo) (l1 : lo < 18446744073709551616) (hc : 0 < c) (hc1 : c < 9223372036854775808) : C0 Try.prog 69 [.int .u64 hi, .int .u64 lo, .int .u64 c] F
    (.tuple #[.int .u64 ((hi * 18446744073709551616 + lo) / c / 18446744073709551616), .int .u64 ((hi * 18446744073709551616 + lo) / c % 18446744073709551616), .int .u64 ((hi * 18446744073709551616 + lo) % c)]) := by
  have hD : 0 ≤ hi * 18446744073709551616 + lo := by omega
  have hz : (hi * 18446744073709551616 + lo) / 2 ^ 128 = 0 := Int.ediv_eq_zero_of_lt hD (by have : (2 : Int) ^ 128 = 340282366920938463463374607431768211456 := rfl; rw [this]; omega)
  refine C.go hT Try.func69 Try.ntmps69 ?_
  refine sq ?_
  refine rg ?_
  iterate 3 (refine st (h := O) ?_)
  refine nl ?_
  refine sq ?_
  refine rg ?_
  iterate 3 (refine st (h := O) ?_)
  refine nl ?_
  iterate 2 (refine sq ?_)
  refine rg ?_
  refine st (h := O) ?_
  refine nl ?_
  refine bl ?_
  refine J.loop4 (α := Int) (β := Int) (γ := Int) (δ := Int) (fun i qh ql r => -1 ≤ i ∧ i ≤ 127 ∧ 0 ≤ qh ∧ 0 ≤ ql ∧ ql < 18446744073709551616 ∧ qh * 18446744073709551616 + ql = (hi * 18446744073709551616 + lo) / 2 ^ (i + 1).toNat / c ∧ r = (hi * 18446744073709551616 + lo) / 2 ^ (i + 1).toNat % c) (fun i qh ql r => [(9, .int .u64 qh), (10, .int .u64 ql), (11, .int .u64 r), (12, .int .i64 i)]) [(0, _), (1, _), (2, _)] (fun i qh ql r => []) [] (fun i qh ql r => (i + 1).toNat) (127) (0) (0) (0) (by exact ⟨rfl, rfl, rfl, rfl, trivial⟩) (by exact ⟨rfl, rfl, rfl, trivial⟩) (by exact trivial) ?_ ?_
  · exact ⟨by omega, by omega, by omega, by omega, by omega, by rw [show ((127 : Int) + 1).toNat = 128 from rfl, hz]; simp, by rw [show ((127 : Int) + 1).toNat = 128 from rfl, hz]; simp⟩
  · intro i qh ql r L1 K1 e1 e2 hI
    dsimp only [apV, apR, List.cons_append, List.nil_append] at e1 e2
    subst e1 e2
    obtain ⟨hi0, hi1, hq, hl, hl1, he, hr⟩ := hI
    iterate 2 (refine sq ?_)
    refine rg ?_
    iterate 2 (refine st (h := O) ?_)
    refine nl ?_
    refine cD (fun c0 => ?_) (fun c0 => ?_)
    · obtain ⟨n, rfl⟩ := Int.eq_ofNat_of_zero_le (show (0 : Int) ≤ i by omega)
      rw [show ((n : Int) + 1).toNat = n + 1 from by omega] at he hr
      have hhalf := half_pow (hi * 18446744073709551616 + lo) n
      have hb0 : 0 ≤ (hi * 18446744073709551616 + lo) / 2 ^ n % 2 := by omega
      have hb1 : (hi * 18446744073709551616 + lo) / 2 ^ n % 2 < 2 := by omega
      have hst := bit_step (P := (hi * 18446744073709551616 + lo) / 2 ^ (n + 1)) hc hb0 hb1
      rw [← hhalf] at hst
      have hr0 := Int.emod_nonneg ((hi * 18446744073709551616 + lo) / 2 ^ (n + 1)) (by omega : c ≠ 0)
      have hr1 := Int.emod_lt_of_pos ((hi * 18446744073709551616 + lo) / 2 ^ (n + 1)) hc
      have hP1 := Int.ediv_nonneg hD (Int.le_of_lt (show (0 : Int) < 2 ^ n from Int.pow_pos (by decide)))
      have hP2 := Int.ediv_le_self (2 ^ n) hD
      have hP3 := Int.ediv_le_self c hP1
      rw [← he, ← hr] at hst
      rw [← hr] at hr0 hr1
      have hv1 := Int.ediv_nonneg l0 (Int.le_of_lt (show (0 : Int) < 2 ^ (n % 64) from Int.pow_pos (by decide)))
      have hv2 := Int.ediv_le_self (2 ^ (n % 64)) l0
      have hv3 := Int.ediv_nonneg h0 (Int.le_of_lt (show (0 : Int) < 2 ^ (n - 64) from Int.pow_pos (by decide)))
      have hv4 := Int.ediv_le_self (2 ^ (n - 64)) h0
      have hlow : ¬ (n : Int) ≥ 64 → lo / 2 ^ (n % 64) % 2 = (hi * 18446744073709551616 + lo) / 2 ^ n % 2 := fun h => by rw [Nat.mod_eq_of_lt (by omega)]; exact low_bit n (by omega)
      have hhigh : (n : Int) ≥ 64 → hi / 2 ^ (n - 64) % 2 = (hi * 18446744073709551616 + lo) / 2 ^ n % 2 := fun h => by rw [high_bit l0 l1 n (by omega)]
      have hq2 : qh * 2 < 18446744073709551616 := by
        have := hst.1
        split at this <;> omega
      refine sk ?_
      refine sq ?_
      refine bl ?_
      refine sq ?_
      refine rg ?_
      iterate 2 (refine st (h := O) ?_)
      refine st (h := si63) ?_
      refine st (h := suC) ?_
      refine st (h := suShr (n % 64) rfl (hb := by omega) (hn := by simp [IntKind.bits]; omega)) ?_
      refine st (h := suAnd1) ?_
      refine st (h := O) ?_
      refine nl ?_
      iterate 2 (refine sq ?_)
      refine rg ?_
      iterate 2 (refine st (h := O) ?_)
      refine nl ?_
      refine cD (fun c1 => ?_) (fun c1 => ?_)
      · have hbit := hhigh (by omega)
        refine rg ?_
        iterate 2 (refine st (h := O) ?_)
        refine st (h := sdS) ?_
        refine st (h := suC) ?_
        refine st (h := suShr (n - 64) rfl (hb := by omega) (hn := by simp [IntKind.bits]; omega)) ?_
        refine st (h := suAnd1) ?_
        refine st (h := O) ?_
        refine nl ?_
        refine sq ?_
        rw [hbit]
        generalize (hi * 18446744073709551616 + lo) / 2 ^ n % 2 = b at *
        refine rg ?_
        refine st (h := O) ?_
        refine st (h := suShl1) ?_
        refine st (h := O) ?_
        refine st (h := suOr1) ?_
        refine st (h := O) ?_
        refine nl ?_
        refine sq ?_
        refine rg ?_
        refine st (h := O) ?_
        refine st (h := suShl1) ?_
        refine st (h := O) ?_
        refine st (h := suShr63) ?_
        refine st (h := suOr1) ?_
        refine st (h := O) ?_
        refine nl ?_
        refine sq ?_
        refine rg ?_
        refine st (h := O) ?_
        refine st (h := suShl1) ?_
        refine st (h := O) ?_
        refine nl ?_
        refine sq ?_
        refine rg ?_
        iterate 3 (refine st (h := O) ?_)
        refine nl ?_
        refine cD (fun c2 => ?_) (fun c2 => ?_)
        · rw [if_pos (by omega), if_pos (by omega)] at hst
          refine sq ?_
          refine rg ?_
          iterate 2 (refine st (h := O) ?_)
          refine st (h := suS) ?_
          refine st (h := O) ?_
          refine nl ?_
          refine rg ?_
          refine st (h := O) ?_
          refine st (h := suOr1) ?_
          refine st (h := O) ?_
          refine nl ?_
          refine bk ?_
          refine rg ?_
          refine st (h := O) ?_
          refine st (h := sdS) ?_
          refine st (h := O) ?_
          refine nl ?_
          refine bk4 (_) (_) (_) (_) (by exact ⟨rfl, rfl, rfl, rfl, trivial⟩) (by exact ⟨rfl, rfl, rfl, trivial⟩) (by exact trivial) ?_ ?_
          · omega
          · rw [show ((n : Int) - 1 + 1).toNat = n from by omega]
            exact ⟨by omega, by omega, by omega, by omega, by omega, by omega, by omega⟩
        · rw [if_neg (by omega), if_neg (by omega)] at hst
          refine sk ?_
          refine bk ?_
          refine rg ?_
          refine st (h := O) ?_
          refine st (h := sdS) ?_
          refine st (h := O) ?_
          refine nl ?_
          refine bk4 (_) (_) (_) (_) (by exact ⟨rfl, rfl, rfl, rfl, trivial⟩) (by exact ⟨rfl, rfl, rfl, trivial⟩) (by exact trivial) ?_ ?_
          · omega
          · rw [show ((n : Int) - 1 + 1).toNat = n from by omega]
            exact ⟨by omega, by omega, by omega, by omega, by omega, by omega, by omega⟩
      · have hbit := hlow (by omega)
        refine sk ?_
        refine sq ?_
        rw [hbit]
        generalize (hi * 18446744073709551616 + lo) / 2 ^ n % 2 = b at *
        refine rg ?_
        refine st (h := O) ?_
        refine st (h := suShl1) ?_
        refine st (h := O) ?_
        refine st (h := suOr1) ?_
        refine st (h := O) ?_
        refine nl ?_
        refine sq ?_
        refine rg ?_
        refine st (h := O) ?_
        refine st (h := suShl1) ?_
        refine st (h := O) ?_
        refine st (h := suShr63) ?_
        refine st (h := suOr1) ?_
        refine st (h := O) ?_
        refine nl ?_
        refine sq ?_
        refine rg ?_
        refine st (h := O) ?_
        refine st (h := suShl1) ?_
        refine st (h := O) ?_
        refine nl ?_
        refine sq ?_
        refine rg ?_
        iterate 3 (refine st (h := O) ?_)
        refine nl ?_
        refine cD (fun c2 => ?_) (fun c2 => ?_)
        · rw [if_pos (by omega), if_pos (by omega)] at hst
          refine sq ?_
          refine rg ?_
          iterate 2 (refine st (h := O) ?_)
          refine st (h := suS) ?_
          refine st (h := O) ?_
          refine nl ?_
          refine rg ?_
          refine st (h := O) ?_
          refine st (h := suOr1) ?_
          refine st (h := O) ?_
          refine nl ?_
          refine bk ?_
          refine rg ?_
          refine st (h := O) ?_
          refine st (h := sdS) ?_
          refine st (h := O) ?_
          refine nl ?_
          refine bk4 (_) (_) (_) (_) (by exact ⟨rfl, rfl, rfl, rfl, trivial⟩) (by exact ⟨rfl, rfl, rfl, trivial⟩) (by exact trivial) ?_ ?_
          · omega
          · rw [show ((n : Int) - 1 + 1).toNat = n from by omega]
            exact ⟨by omega, by omega, by omega, by omega, by omega, by omega, by omega⟩
        · rw [if_neg (by omega), if_neg (by omega)] at hst
          refine sk ?_
          refine bk ?_
          refine rg ?_
          refine st (h := O) ?_
          refine st (h := sdS) ?_
          refine st (h := O) ?_
          refine nl ?_
          refine bk4 (_) (_) (_) (_) (by exact ⟨rfl, rfl, rfl, rfl, trivial⟩) (by exact ⟨rfl, rfl, rfl, trivial⟩) (by exact trivial) ?_ ?_
          · omega
          · rw [show ((n : Int) - 1 + 1).toNat = n from by omega]
            exact ⟨by omega, by omega, by omega, by omega, by omega, by omega, by omega⟩
    · obtain rfl : i = -1 := by omega
      simp only [show ((-1 : Int) + 1).toNat = 0 from rfl, Int.pow_zero, Int.ediv_one] at he hr
      refine ex ?_
      refine sq ?_
      refine rg ?_
      iterate 6 (refine st (h := O) ?_)
      refine nl ?_
      refine rt ⟨?_, rfl⟩
      rw [← he, ← hr, show (qh * 18446744073709551616 + ql) / 18446744073709551616 = qh from by omega, show (qh * 18446744073709551616 + ql) % 18446744073709551616 = ql from by omega]
def qtell (P c : Int) : Int := if P / c ≤ 1099511627776 then P / c else 1099511627777
theorem parts_C (F : Mem) (a b c : Int) (ha : i64ok a) (hb : i64ok b) (hc : 1 ≤ c) (hc1 : c ≤ 9223372036854775807) : C0 Try.prog 65 [.int .i64 a, .int .i64 b, .int .i64 c] F
    (.tuple #[.bool ((decide (a < 0) != decide (b < 0)) && decide (amt a * amt b ≠ 0)), .int .i64 (qtell (amt a * amt b) c), .int .u64 (amt a * amt b % c)]) := by
  have hp := prod_lt ha hb
  have h1 := amt_bd ha; have h2 := amt_bd hb
  have hs : ∀ G, C0 Try.prog 67 [.int .i64 a] G (.tuple #[.int .u64 (amt a), .bool (decide (a < 0))]) := fun G => size_C G a ha
  have ht : ∀ G, C0 Try.prog 67 [.int .i64 b] G (.tuple #[.int .u64 (amt b), .bool (decide (b < 0))]) := fun G => size_C G b hb
  have hpr : ∀ G, C0 Try.prog 68 [.int .u64 (amt a), .int .u64 (amt b)] G (.tuple #[.int .u64 (amt a * amt b / 18446744073709551616), .int .u64 (amt a * amt b % 18446744073709551616)]) := fun G => product_C G _ _ h1.1 (by omega) h2.1 (by omega)
  unfold i64ok at ha hb
  generalize amt a = x at *
  generalize amt b = y at *
  generalize x * y = P at *
  have hdv : ∀ G, C0 Try.prog 69 [.int .u64 (P / 18446744073709551616), .int .u64 (P % 18446744073709551616), .int .u64 c] G (.tuple #[.int .u64 (P / c / 18446744073709551616), .int .u64 (P / c % 18446744073709551616), .int .u64 (P % c)]) := fun G => by
    have := divide_C G (P / 18446744073709551616) (P % 18446744073709551616) c (by omega) (by omega) (by omega) (by omega) (by omega) (by omega)
    rwa [show P / 18446744073709551616 * 18446744073709551616 + P % 18446744073709551616 = P from by omega] at this
  have hq0 : 0 ≤ P / c := Int.ediv_nonneg hp.1 (by omega)
  generalize hq : P / c = q at *
  generalize P % c = r at *
  have hqt : qtell P c = if q ≤ 1099511627776 then q else 1099511627777 := by unfold qtell; rw [hq]
  rw [hqt]
  cases hsa : decide (a < 0) <;> cases htb : decide (b < 0)
  all_goals
    rw [hsa] at hs
    rw [htb] at ht
    refine C.go hT Try.func65 Try.ntmps65 ?_
    refine sq ?_
    refine rg ?_
    iterate 3 (refine st (h := O) ?_)
    refine nl ?_
    refine sq ?_
    refine rg ?_
    refine st (h := O) ?_
    refine cl (h := by exact fun ι hV hl => hs _) ?_
    iterate 5 (refine st (h := O) ?_)
    refine nl ?_
    refine sq ?_
    refine rg ?_
    refine st (h := O) ?_
    refine cl (h := by exact fun ι hV hl => ht _) ?_
    iterate 5 (refine st (h := O) ?_)
    refine nl ?_
    refine sq ?_
    refine rg ?_
    iterate 2 (refine st (h := O) ?_)
    refine cl (h := by exact fun ι hV hl => hpr _) ?_
    iterate 5 (refine st (h := O) ?_)
    refine nl ?_
    refine sq ?_
    refine rg ?_
    iterate 3 (refine st (h := O) ?_)
    refine st (h := suC) ?_
    refine cl (h := by exact fun ι hV hl => hdv _) ?_
    iterate 7 (refine st (h := O) ?_)
    refine nl ?_
    refine sq ?_
    refine rg ?_
    refine st (h := O) ?_
    refine nl ?_
    iterate 2 (refine sq ?_)
    refine rg ?_
    iterate 3 (refine st (h := O) ?_)
    refine gD (fun g46 => ?_) (fun g46 => ?_)
    · refine sg (h := O) ?_
      refine sg (h := O) ?_
      refine st (h := O) ?_
      refine nl ?_
      refine cD (fun c0 => ?_) (fun c0 => ?_)
      · refine rg ?_
        refine st (h := O) ?_
        refine st (h := suC) ?_
        refine st (h := O) ?_
        refine nl ?_
        refine sq ?_
        refine rg ?_
        iterate 2 (refine st (h := O) ?_)
        refine st (h := sbNe) ?_
        refine st (h := O) ?_
        refine gB (fun g55 => ?_) (fun g55 => ?_)
        · refine sg (h := O) ?_
          iterate 2 (refine sg (h := O) ?_)
          refine gN (fun g58 => ?_) (fun g58 => ?_)
          · refine sp ?_
            refine sp ?_
            refine sg (h := O) ?_
            iterate 6 (refine st (h := O) ?_)
            refine nl ?_
            refine rt ⟨?_, rfl⟩
            refine tup3 (congrArg Value.bool ?_) (congrArg (Value.int .i64) ?_) rfl
            · first | exact absurd g55 (by decide) | rfl | (rw [Bool.eq_iff_iff]; simp; omega)
            · split <;> omega
          · refine sg (h := O) ?_
            iterate 2 (refine sg (h := O) ?_)
            iterate 6 (refine st (h := O) ?_)
            refine nl ?_
            refine rt ⟨?_, rfl⟩
            refine tup3 (congrArg Value.bool ?_) (congrArg (Value.int .i64) ?_) rfl
            · first | exact absurd g55 (by decide) | rfl | (rw [Bool.eq_iff_iff]; simp; omega)
            · split <;> omega
        · refine sp ?_
          iterate 2 (refine sp ?_)
          iterate 2 (refine su ?_)
          refine sp ?_
          iterate 6 (refine st (h := O) ?_)
          refine nl ?_
          refine rt ⟨?_, rfl⟩
          refine tup3 (congrArg Value.bool ?_) (congrArg (Value.int .i64) ?_) rfl
          · first | exact absurd g55 (by decide) | rfl | (rw [Bool.eq_iff_iff]; simp; omega)
          · split <;> omega
      · refine sk ?_
        refine sq ?_
        refine rg ?_
        iterate 2 (refine st (h := O) ?_)
        refine st (h := sbNe) ?_
        refine st (h := O) ?_
        refine gB (fun g55 => ?_) (fun g55 => ?_)
        · refine sg (h := O) ?_
          iterate 2 (refine sg (h := O) ?_)
          refine gN (fun g58 => ?_) (fun g58 => ?_)
          · refine sp ?_
            refine sp ?_
            refine sg (h := O) ?_
            iterate 6 (refine st (h := O) ?_)
            refine nl ?_
            refine rt ⟨?_, rfl⟩
            refine tup3 (congrArg Value.bool ?_) (congrArg (Value.int .i64) ?_) rfl
            · first | exact absurd g55 (by decide) | rfl | (rw [Bool.eq_iff_iff]; simp; omega)
            · split <;> omega
          · refine sg (h := O) ?_
            iterate 2 (refine sg (h := O) ?_)
            iterate 6 (refine st (h := O) ?_)
            refine nl ?_
            refine rt ⟨?_, rfl⟩
            refine tup3 (congrArg Value.bool ?_) (congrArg (Value.int .i64) ?_) rfl
            · first | exact absurd g55 (by decide) | rfl | (rw [Bool.eq_iff_iff]; simp; omega)
            · split <;> omega
        · refine sp ?_
          iterate 2 (refine sp ?_)
          iterate 2 (refine su ?_)
          refine sp ?_
          iterate 6 (refine st (h := O) ?_)
          refine nl ?_
          refine rt ⟨?_, rfl⟩
          refine tup3 (congrArg Value.bool ?_) (congrArg (Value.int .i64) ?_) rfl
          · first | exact absurd g55 (by decide) | rfl | (rw [Bool.eq_iff_iff]; simp; omega)
          · split <;> omega
    · refine sp ?_
      refine sp ?_
      refine st (h := O) ?_
      refine nl ?_
      refine cF ?_
      refine sk ?_
      refine sq ?_
      refine rg ?_
      iterate 2 (refine st (h := O) ?_)
      refine st (h := sbNe) ?_
      refine st (h := O) ?_
      refine gB (fun g55 => ?_) (fun g55 => ?_)
      · refine sg (h := O) ?_
        iterate 2 (refine sg (h := O) ?_)
        refine gN (fun g58 => ?_) (fun g58 => ?_)
        · refine sp ?_
          refine sp ?_
          refine sg (h := O) ?_
          iterate 6 (refine st (h := O) ?_)
          refine nl ?_
          refine rt ⟨?_, rfl⟩
          refine tup3 (congrArg Value.bool ?_) (congrArg (Value.int .i64) ?_) rfl
          · first | exact absurd g55 (by decide) | rfl | (rw [Bool.eq_iff_iff]; simp; omega)
          · split <;> omega
        · refine sg (h := O) ?_
          iterate 2 (refine sg (h := O) ?_)
          iterate 6 (refine st (h := O) ?_)
          refine nl ?_
          refine rt ⟨?_, rfl⟩
          refine tup3 (congrArg Value.bool ?_) (congrArg (Value.int .i64) ?_) rfl
          · first | exact absurd g55 (by decide) | rfl | (rw [Bool.eq_iff_iff]; simp; omega)
          · split <;> omega
      · refine sp ?_
        iterate 2 (refine sp ?_)
        iterate 2 (refine su ?_)
        refine sp ?_
        iterate 6 (refine st (h := O) ?_)
        refine nl ?_
        refine rt ⟨?_, rfl⟩
        refine tup3 (congrArg Value.bool ?_) (congrArg (Value.int .i64) ?_) rfl
        · first | exact absurd g55 (by decide) | rfl | (rw [Bool.eq_iff_iff]; simp; omega)
        · split <;> omega
theorem neg_div {P c : Int} (hc : 0 < c) : -P / c = if P % c = 0 then -(P / c) else -(P / c) - 1 := by
  have hd := Int.mul_ediv_add_emod P c
  have h0 := Int.emod_nonneg P (by omega : c ≠ 0)
  have h1 := Int.emod_lt_of_pos P hc
  generalize P / c = q at *
  generalize P % c = r at *
  subst hd
  split
  · rename_i h
    subst h
    rw [show -(c * q + 0) = -q * c from by grind, Int.mul_ediv_cancel _ (by omega)]
  · rw [show -(c * q + r) = (c - r) + (-q - 1) * c from by grind, Int.add_mul_ediv_right _ _ (by omega), Int.ediv_eq_zero_of_lt (by omega) (by omega)]
    omega
theorem ab_of (a b : Int) : a * b = if (decide (a < 0) != decide (b < 0)) = true then -(amt a * amt b) else amt a * amt b := by
  rw [mul_amt]
  split <;> simp
theorem keepS_out {x : Int} (h : ¬ (-1099511627776 ≤ x ∧ x ≤ 1099511627776)) : keepS x = (0, false) := by unfold keepS; rw [if_neg h]
theorem r01Floor_C (F : Mem) (a b c : Int) (ha : i64ok a) (hb : i64ok b) (hc : i64ok c) : C0 Try.prog 64 [.int .i64 a, .int .i64 b, .int .i64 c] F (.tuple #[.int .i64 (floorS a b c).1, .bool (floorS a b c).2]) := by
  by_cases c1 : c < 1
  · rw [floorS, if_pos c1]
    refine C.go hT Try.func64 Try.ntmps64 ?_
    refine sq ?_
    refine rg ?_
    iterate 2 (refine st (h := O) ?_)
    refine nl ?_
    iterate 2 (refine sq ?_)
    refine rg ?_
    iterate 2 (refine st (h := O) ?_)
    refine nl ?_
    refine cD (fun c0 => ?_) (fun c0 => ?_)
    · refine sq ?_
      refine rg ?_
      iterate 2 (refine st (h := O) ?_)
      refine nl ?_
      exact rt ⟨rfl, rfl⟩
    · exact absurd c1 c0
  · rw [floorS, if_neg c1]
    have hp := prod_lt ha hb
    have hab := ab_of a b
    have hpt : ∀ G, _ := fun G => parts_C G a b c ha hb (by omega) hc.2
    have hn := neg_div (P := amt a * amt b) (c := c) (by omega)
    have hq0 : 0 ≤ amt a * amt b / c := Int.ediv_nonneg hp.1 (by omega)
    have hz : amt a * amt b = 0 → amt a * amt b / c = 0 := by intro h; rw [h]; exact Int.zero_ediv c
    have hz2 : amt a * amt b = 0 → amt a * amt b % c = 0 := by intro h; rw [h]; exact Int.zero_emod c
    unfold i64ok at ha hb hc
    have hqt : qtell (amt a * amt b) c = if amt a * amt b / c ≤ 1099511627776 then amt a * amt b / c else 1099511627777 := rfl
    rw [hqt] at hpt
    clear hqt
    generalize (decide (a < 0) != decide (b < 0)) = s at *
    generalize hPc : amt a * amt b / c = q at *
    generalize amt a * amt b % c = r at *
    generalize amt a * amt b = P at *
    have hqb : 0 ≤ (if q ≤ 1099511627776 then q else 1099511627777) ∧ (if q ≤ 1099511627776 then q else 1099511627777) ≤ 1099511627777 := by split <;> omega
    generalize hQ : (if q ≤ 1099511627776 then q else 1099511627777) = Q at *
    refine C.go hT Try.func64 Try.ntmps64 ?_
    refine sq ?_
    refine rg ?_
    iterate 2 (refine st (h := O) ?_)
    refine nl ?_
    iterate 2 (refine sq ?_)
    refine rg ?_
    iterate 2 (refine st (h := O) ?_)
    refine nl ?_
    refine cD (fun c0 => ?_) (fun c0 => ?_)
    · exact absurd c0 c1
    · refine sk ?_
      refine sq ?_
      refine rg ?_
      iterate 3 (refine st (h := O) ?_)
      refine cl (h := by exact fun ι hV hl => hpt _) ?_
      iterate 7 (refine st (h := O) ?_)
      refine nl ?_
      iterate 2 (refine sq ?_)
      refine rg ?_
      iterate 2 (refine st (h := O) ?_)
      refine nl ?_
      refine cB (fun c1 => ?_) (fun c1 => ?_)
      · refine sq ?_
        refine rg ?_
        refine st (h := O) ?_
        refine cl (h := by exact fun ι hV hl => told_C _ _) ?_
        iterate 4 (refine st (h := O) ?_)
        refine nl ?_
        refine rt ⟨?_, rfl⟩
        have hv : a * b / c = q := by
          cases s
          · rw [hab, if_neg (by decide)]; exact hPc
          · have hP0 : P = 0 := by simpa using c1
            rw [hab, if_pos rfl, hn, if_pos (hz2 hP0), hz hP0]; rfl
        rw [hv]
        by_cases h : q ≤ 1099511627776
        · rw [if_pos h] at hQ; rw [hQ]
        · rw [if_neg h] at hQ; rw [keepS_out (x := q) (by omega), keepS_out (x := Q) (by omega)]
      · have hv : a * b / c = if r = 0 then -q else -q - 1 := by
          cases s
          · simp at c1
          · rw [hab, if_pos rfl, hn]
        refine sk ?_
        iterate 2 (refine sq ?_)
        refine rg ?_
        iterate 2 (refine st (h := O) ?_)
        refine nl ?_
        refine cN (fun c2 => ?_) (fun c2 => ?_)
        · refine rg ?_
          refine st (h := O) ?_
          refine st (h := sdA) ?_
          refine st (h := O) ?_
          refine nl ?_
          refine sq ?_
          refine rg ?_
          refine st (h := O) ?_
          refine st (h := sdN) ?_
          refine cl (h := by exact fun ι hV hl => told_C _ _) ?_
          iterate 4 (refine st (h := O) ?_)
          refine nl ?_
          refine rt ⟨?_, rfl⟩
          rw [hv]
          by_cases h : q ≤ 1099511627776
          · rw [if_pos h] at hQ; subst hQ
            first
              | (rw [if_pos c2])
              | (rw [if_neg c2, show -(q + 1) = -q - 1 from by omega])
          · rw [if_neg h] at hQ
            first
              | (rw [if_pos c2, keepS_out (x := -q) (by omega), keepS_out (x := -Q) (by omega)])
              | (rw [if_neg c2, keepS_out (x := -q - 1) (by omega), keepS_out (x := -(Q + 1)) (by omega)])
        · refine sk ?_
          refine sq ?_
          refine rg ?_
          refine st (h := O) ?_
          refine st (h := sdN) ?_
          refine cl (h := by exact fun ι hV hl => told_C _ _) ?_
          iterate 4 (refine st (h := O) ?_)
          refine nl ?_
          refine rt ⟨?_, rfl⟩
          rw [hv]
          by_cases h : q ≤ 1099511627776
          · rw [if_pos h] at hQ; subst hQ
            first
              | (rw [if_pos c2])
              | (rw [if_neg c2, show -(q + 1) = -q - 1 from by omega])
          · rw [if_neg h] at hQ
            first
              | (rw [if_pos c2, keepS_out (x := -q) (by omega), keepS_out (x := -Q) (by omega)])
              | (rw [if_neg c2, keepS_out (x := -q - 1) (by omega), keepS_out (x := -(Q + 1)) (by omega)])

end Go.Proofs.Ytbeblgjibfoanaa.Am
namespace Go.Proofs.Ytbeblgjibfoanaa.Am
set_option linter.unusedSimpArgs false
set_option linter.unusedVariables false
set_option maxRecDepth 100000
set_option maxHeartbeats 4000000
open Go Go.RowKit
theorem r23Good_C (F : Mem) (x : Par) : C0 Try.prog 35 [x.v] F (.bool x.good) := by
  obtain ⟨w, tol, line, twice, odd⟩ := x
  dsimp only [Par.v]
  refine C.go hT Try.func35 Try.ntmps35 ?_
  refine sq ?_
  refine rg ?_
  refine bx ?_
  refine st (h := O) ?_
  refine nl ?_
  refine sq ?_
  refine rg ?_
  refine st (h := sdFA) ?_
  refine st (h := sdL) ?_
  iterate 2 (refine st (h := O) ?_)
  refine gD (fun g6 => ?_) (fun g6 => ?_)
  · refine sg (h := sdFA) ?_
    refine sg (h := sdL) ?_
    refine sg (h := O) ?_
    iterate 2 (refine st (h := O) ?_)
    refine gD (fun g11 => ?_) (fun g11 => ?_)
    · refine sg (h := sdFA) ?_
      refine sg (h := sdL) ?_
      refine sg (h := O) ?_
      iterate 2 (refine st (h := O) ?_)
      refine gD (fun g16 => ?_) (fun g16 => ?_)
      · refine sg (h := sdFA) ?_
        refine sg (h := sdL) ?_
        refine sg (h := O) ?_
        iterate 2 (refine st (h := O) ?_)
        refine gD (fun g21 => ?_) (fun g21 => ?_)
        · refine sg (h := sdFA) ?_
          refine sg (h := sdL) ?_
          refine sg (h := O) ?_
          iterate 2 (refine st (h := O) ?_)
          refine gD (fun g26 => ?_) (fun g26 => ?_)
          · refine sg (h := sdFA) ?_
            refine sg (h := sdL) ?_
            refine sg (h := O) ?_
            iterate 2 (refine st (h := O) ?_)
            refine gD (fun g31 => ?_) (fun g31 => ?_)
            · refine sg (h := sdFA) ?_
              refine sg (h := sdL) ?_
              refine sg (h := O) ?_
              iterate 2 (refine st (h := O) ?_)
              refine gD (fun g36 => ?_) (fun g36 => ?_)
              · refine sg (h := sdFA) ?_
                refine sg (h := sdL) ?_
                refine sg (h := O) ?_
                iterate 2 (refine st (h := O) ?_)
                refine gD (fun g41 => ?_) (fun g41 => ?_)
                · refine sg (h := sdFA) ?_
                  refine sg (h := sdL) ?_
                  refine sg (h := O) ?_
                  iterate 2 (refine st (h := O) ?_)
                  refine gD (fun g46 => ?_) (fun g46 => ?_)
                  · refine sg (h := sdFA) ?_
                    refine sg (h := sdL) ?_
                    refine sg (h := O) ?_
                    iterate 2 (refine st (h := O) ?_)
                    refine nl ?_
                    refine rt ⟨?_, rfl⟩
                    simp only [Par.good, Value.bool.injEq, eq_comm (a := false), eq_comm (a := true), decide_eq_true_eq, decide_eq_false_iff_not, decide_eq_decide]
                    omega
                  · refine sp ?_
                    iterate 2 (refine sp ?_)
                    iterate 2 (refine st (h := O) ?_)
                    refine nl ?_
                    refine rt ⟨?_, rfl⟩
                    simp only [Par.good, Value.bool.injEq, eq_comm (a := false), eq_comm (a := true), decide_eq_true_eq, decide_eq_false_iff_not, decide_eq_decide]
                    omega
                · refine sp ?_
                  iterate 2 (refine sp ?_)
                  iterate 2 (refine st (h := O) ?_)
                  iterate 3 (refine sp ?_)
                  iterate 2 (refine st (h := O) ?_)
                  refine nl ?_
                  refine rt ⟨?_, rfl⟩
                  simp only [Par.good, Value.bool.injEq, eq_comm (a := false), eq_comm (a := true), decide_eq_true_eq, decide_eq_false_iff_not, decide_eq_decide]
                  omega
              · refine sp ?_
                iterate 2 (refine sp ?_)
                iterate 2 (refine st (h := O) ?_)
                iterate 3 (refine sp ?_)
                iterate 2 (refine st (h := O) ?_)
                iterate 3 (refine sp ?_)
                iterate 2 (refine st (h := O) ?_)
                refine nl ?_
                refine rt ⟨?_, rfl⟩
                simp only [Par.good, Value.bool.injEq, eq_comm (a := false), eq_comm (a := true), decide_eq_true_eq, decide_eq_false_iff_not, decide_eq_decide]
                omega
            · refine sp ?_
              iterate 2 (refine sp ?_)
              iterate 2 (refine st (h := O) ?_)
              iterate 3 (refine sp ?_)
              iterate 2 (refine st (h := O) ?_)
              iterate 3 (refine sp ?_)
              iterate 2 (refine st (h := O) ?_)
              iterate 3 (refine sp ?_)
              iterate 2 (refine st (h := O) ?_)
              refine nl ?_
              refine rt ⟨?_, rfl⟩
              simp only [Par.good, Value.bool.injEq, eq_comm (a := false), eq_comm (a := true), decide_eq_true_eq, decide_eq_false_iff_not, decide_eq_decide]
              omega
          · refine sp ?_
            iterate 2 (refine sp ?_)
            iterate 2 (refine st (h := O) ?_)
            iterate 3 (refine sp ?_)
            iterate 2 (refine st (h := O) ?_)
            iterate 3 (refine sp ?_)
            iterate 2 (refine st (h := O) ?_)
            iterate 3 (refine sp ?_)
            iterate 2 (refine st (h := O) ?_)
            iterate 3 (refine sp ?_)
            iterate 2 (refine st (h := O) ?_)
            refine nl ?_
            refine rt ⟨?_, rfl⟩
            simp only [Par.good, Value.bool.injEq, eq_comm (a := false), eq_comm (a := true), decide_eq_true_eq, decide_eq_false_iff_not, decide_eq_decide]
            omega
        · refine sp ?_
          iterate 2 (refine sp ?_)
          iterate 2 (refine st (h := O) ?_)
          iterate 3 (refine sp ?_)
          iterate 2 (refine st (h := O) ?_)
          iterate 3 (refine sp ?_)
          iterate 2 (refine st (h := O) ?_)
          iterate 3 (refine sp ?_)
          iterate 2 (refine st (h := O) ?_)
          iterate 3 (refine sp ?_)
          iterate 2 (refine st (h := O) ?_)
          iterate 3 (refine sp ?_)
          iterate 2 (refine st (h := O) ?_)
          refine nl ?_
          refine rt ⟨?_, rfl⟩
          simp only [Par.good, Value.bool.injEq, eq_comm (a := false), eq_comm (a := true), decide_eq_true_eq, decide_eq_false_iff_not, decide_eq_decide]
          omega
      · refine sp ?_
        iterate 2 (refine sp ?_)
        iterate 2 (refine st (h := O) ?_)
        iterate 3 (refine sp ?_)
        iterate 2 (refine st (h := O) ?_)
        iterate 3 (refine sp ?_)
        iterate 2 (refine st (h := O) ?_)
        iterate 3 (refine sp ?_)
        iterate 2 (refine st (h := O) ?_)
        iterate 3 (refine sp ?_)
        iterate 2 (refine st (h := O) ?_)
        iterate 3 (refine sp ?_)
        iterate 2 (refine st (h := O) ?_)
        iterate 3 (refine sp ?_)
        iterate 2 (refine st (h := O) ?_)
        refine nl ?_
        refine rt ⟨?_, rfl⟩
        simp only [Par.good, Value.bool.injEq, eq_comm (a := false), eq_comm (a := true), decide_eq_true_eq, decide_eq_false_iff_not, decide_eq_decide]
        omega
    · refine sp ?_
      iterate 2 (refine sp ?_)
      iterate 2 (refine st (h := O) ?_)
      iterate 3 (refine sp ?_)
      iterate 2 (refine st (h := O) ?_)
      iterate 3 (refine sp ?_)
      iterate 2 (refine st (h := O) ?_)
      iterate 3 (refine sp ?_)
      iterate 2 (refine st (h := O) ?_)
      iterate 3 (refine sp ?_)
      iterate 2 (refine st (h := O) ?_)
      iterate 3 (refine sp ?_)
      iterate 2 (refine st (h := O) ?_)
      iterate 3 (refine sp ?_)
      iterate 2 (refine st (h := O) ?_)
      iterate 3 (refine sp ?_)
      iterate 2 (refine st (h := O) ?_)
      refine nl ?_
      refine rt ⟨?_, rfl⟩
      simp only [Par.good, Value.bool.injEq, eq_comm (a := false), eq_comm (a := true), decide_eq_true_eq, decide_eq_false_iff_not, decide_eq_decide]
      omega
  · refine sp ?_
    iterate 2 (refine sp ?_)
    iterate 2 (refine st (h := O) ?_)
    iterate 3 (refine sp ?_)
    iterate 2 (refine st (h := O) ?_)
    iterate 3 (refine sp ?_)
    iterate 2 (refine st (h := O) ?_)
    iterate 3 (refine sp ?_)
    iterate 2 (refine st (h := O) ?_)
    iterate 3 (refine sp ?_)
    iterate 2 (refine st (h := O) ?_)
    iterate 3 (refine sp ?_)
    iterate 2 (refine st (h := O) ?_)
    iterate 3 (refine sp ?_)
    iterate 2 (refine st (h := O) ?_)
    iterate 3 (refine sp ?_)
    iterate 2 (refine st (h := O) ?_)
    iterate 3 (refine sp ?_)
    iterate 2 (refine st (h := O) ?_)
    refine nl ?_
    refine rt ⟨?_, rfl⟩
    simp only [Par.good, Value.bool.injEq, eq_comm (a := false), eq_comm (a := true), decide_eq_true_eq, decide_eq_false_iff_not, decide_eq_decide]
    omega
theorem r23Line_C (F : Mem) (l b p : Int) : C0 Try.prog 49 [.int .i64 l, .int .i64 b, .int .i64 p] F (.int .i64 (lineD l b p)) := by
  have h1 := sq_bd (x := min (max l 0) 1000 + min (max b 0) 10000) (n := 11000) (by omega) (by omega)
  have h2 := sq_bd (x := min (max p (-10000)) 10000) (n := 10000) (by omega) (by omega)
  refine C.go hT Try.func49 Try.ntmps49 ?_
  refine sq ?_
  refine rg ?_
  refine st (h := O) ?_
  refine nl ?_
  refine sq ?_
  refine rg ?_
  refine st (h := O) ?_
  refine cl (h := by exact fun ι hV hl => within_C _ _ _ _) ?_
  refine st (h := O) ?_
  refine cl (h := by exact fun ι hV hl => within_C _ _ _ _) ?_
  refine st (h := O) ?_
  refine cl (h := by exact fun ι hV hl => within_C _ _ _ _) ?_
  iterate 3 (refine st (h := O) ?_)
  refine nl ?_
  refine sq ?_
  refine rg ?_
  iterate 2 (refine st (h := O) ?_)
  refine st (h := sdA) ?_
  iterate 2 (refine st (h := O) ?_)
  refine st (h := sdA) ?_
  refine st (h := sdM) ?_
  refine st (h := O) ?_
  refine nl ?_
  iterate 2 (refine sq ?_)
  refine rg ?_
  iterate 2 (refine st (h := O) ?_)
  refine nl ?_
  refine cD (fun c0 => ?_) (fun c0 => ?_)
  · refine sq ?_
    refine rg ?_
    iterate 3 (refine st (h := O) ?_)
    refine st (h := sdM) ?_
    refine st (h := sdA) ?_
    refine st (h := O) ?_
    refine nl ?_
    refine rt ⟨?_, rfl⟩
    simp only [lineD, *, if_true, if_false]
  · refine sk ?_
    iterate 2 (refine sq ?_)
    refine rg ?_
    iterate 2 (refine st (h := O) ?_)
    refine nl ?_
    refine cD (fun c1 => ?_) (fun c1 => ?_)
    · refine sq ?_
      refine rg ?_
      iterate 3 (refine st (h := O) ?_)
      refine st (h := sdM) ?_
      refine st (h := sdS) ?_
      refine st (h := O) ?_
      refine nl ?_
      refine rt ⟨?_, rfl⟩
      simp only [lineD, *, if_true, if_false]
    · refine sk ?_
      refine sq ?_
      refine rg ?_
      iterate 2 (refine st (h := O) ?_)
      refine nl ?_
      refine rt ⟨?_, rfl⟩
      simp only [lineD, *, if_true, if_false]
theorem r23More_C (F : Mem) (a b : Int) (f g : Bool) (x : Par) : C0 Try.prog 51 [.int .i64 a, .int .i64 b, .bool f, .bool g, x.v] F (.int .i64 (moreD a b f g x)) := by
  obtain ⟨w, tol, line, twice, odd⟩ := x
  dsimp only [Par.v]
  refine C.go hT Try.func51 Try.ntmps51 ?_
  refine sq ?_
  refine rg ?_
  refine bx ?_
  refine st (h := O) ?_
  refine nl ?_
  refine sq ?_
  refine rg ?_
  refine st (h := O) ?_
  refine cl (h := by exact fun ι hV hl => within_C _ _ _ _) ?_
  refine st (h := O) ?_
  refine cl (h := by exact fun ι hV hl => within_C _ _ _ _) ?_
  iterate 2 (refine st (h := O) ?_)
  refine nl ?_
  refine sq ?_
  refine rg ?_
  refine st (h := O) ?_
  refine nl ?_
  iterate 2 (refine sq ?_)
  refine rg ?_
  iterate 2 (refine st (h := O) ?_)
  refine st (h := sdS) ?_
  iterate 2 (refine st (h := O) ?_)
  refine gD (fun g20 => ?_) (fun g20 => ?_)
  · refine sp ?_
    iterate 3 (refine sp ?_)
    refine st (h := O) ?_
    refine nl ?_
    refine cT ?_
    refine rg ?_
    refine st (h := O) ?_
    refine st (h := sdFA) ?_
    refine st (h := sdL) ?_
    refine cl (h := by exact fun ι hV hl => within_C _ _ _ _) ?_
    refine st (h := sdA) ?_
    refine st (h := O) ?_
    refine nl ?_
    iterate 2 (refine sq ?_)
    refine rg ?_
    iterate 2 (refine st (h := O) ?_)
    refine gB (fun g32 => ?_) (fun g32 => ?_)
    · refine sg (h := O) ?_
      refine st (h := O) ?_
      refine nl ?_
      refine cB (fun c1 => ?_) (fun c1 => ?_)
      · refine rg ?_
        refine st (h := O) ?_
        refine st (h := sdFA) ?_
        refine st (h := sdL) ?_
        refine cl (h := by exact fun ι hV hl => within_C _ _ _ _) ?_
        refine st (h := sdA) ?_
        refine st (h := O) ?_
        refine nl ?_
        refine sq ?_
        refine rg ?_
        iterate 2 (refine st (h := O) ?_)
        refine nl ?_
        refine rt ⟨?_, rfl⟩
        cases f <;> cases g <;> simp only [moreD, Value.int.injEq, true_and, Bool.and_self, Bool.and_true, Bool.and_false, if_true, Bool.false_eq_true, if_false] <;> (repeat' split) <;> first | omega | simp_all
      · refine sk ?_
        refine sq ?_
        refine rg ?_
        iterate 2 (refine st (h := O) ?_)
        refine nl ?_
        refine rt ⟨?_, rfl⟩
        cases f <;> cases g <;> simp only [moreD, Value.int.injEq, true_and, Bool.and_self, Bool.and_true, Bool.and_false, if_true, Bool.false_eq_true, if_false] <;> (repeat' split) <;> first | omega | simp_all
    · refine sp ?_
      refine st (h := O) ?_
      refine nl ?_
      refine cF ?_
      refine sk ?_
      refine sq ?_
      refine rg ?_
      iterate 2 (refine st (h := O) ?_)
      refine nl ?_
      refine rt ⟨?_, rfl⟩
      cases f <;> cases g <;> simp only [moreD, Value.int.injEq, true_and, Bool.and_self, Bool.and_true, Bool.and_false, if_true, Bool.false_eq_true, if_false] <;> (repeat' split) <;> first | omega | simp_all
  · refine sg (h := O) ?_
    refine sg (h := O) ?_
    refine sg (h := sdS) ?_
    refine sg (h := O) ?_
    refine st (h := O) ?_
    refine nl ?_
    refine cD (fun c0 => ?_) (fun c0 => ?_)
    · refine rg ?_
      refine st (h := O) ?_
      refine st (h := sdFA) ?_
      refine st (h := sdL) ?_
      refine cl (h := by exact fun ι hV hl => within_C _ _ _ _) ?_
      refine st (h := sdA) ?_
      refine st (h := O) ?_
      refine nl ?_
      iterate 2 (refine sq ?_)
      refine rg ?_
      iterate 2 (refine st (h := O) ?_)
      refine gB (fun g32 => ?_) (fun g32 => ?_)
      · refine sg (h := O) ?_
        refine st (h := O) ?_
        refine nl ?_
        refine cB (fun c1 => ?_) (fun c1 => ?_)
        · refine rg ?_
          refine st (h := O) ?_
          refine st (h := sdFA) ?_
          refine st (h := sdL) ?_
          refine cl (h := by exact fun ι hV hl => within_C _ _ _ _) ?_
          refine st (h := sdA) ?_
          refine st (h := O) ?_
          refine nl ?_
          refine sq ?_
          refine rg ?_
          iterate 2 (refine st (h := O) ?_)
          refine nl ?_
          refine rt ⟨?_, rfl⟩
          cases f <;> cases g <;> simp only [moreD, Value.int.injEq, true_and, Bool.and_self, Bool.and_true, Bool.and_false, if_true, Bool.false_eq_true, if_false] <;> (repeat' split) <;> first | omega | simp_all
        · refine sk ?_
          refine sq ?_
          refine rg ?_
          iterate 2 (refine st (h := O) ?_)
          refine nl ?_
          refine rt ⟨?_, rfl⟩
          cases f <;> cases g <;> simp only [moreD, Value.int.injEq, true_and, Bool.and_self, Bool.and_true, Bool.and_false, if_true, Bool.false_eq_true, if_false] <;> (repeat' split) <;> first | omega | simp_all
      · refine sp ?_
        refine st (h := O) ?_
        refine nl ?_
        refine cF ?_
        refine sk ?_
        refine sq ?_
        refine rg ?_
        iterate 2 (refine st (h := O) ?_)
        refine nl ?_
        refine rt ⟨?_, rfl⟩
        cases f <;> cases g <;> simp only [moreD, Value.int.injEq, true_and, Bool.and_self, Bool.and_true, Bool.and_false, if_true, Bool.false_eq_true, if_false] <;> (repeat' split) <;> first | omega | simp_all
    · refine sk ?_
      iterate 2 (refine sq ?_)
      refine rg ?_
      iterate 2 (refine st (h := O) ?_)
      refine gB (fun g32 => ?_) (fun g32 => ?_)
      · refine sg (h := O) ?_
        refine st (h := O) ?_
        refine nl ?_
        refine cB (fun c1 => ?_) (fun c1 => ?_)
        · refine rg ?_
          refine st (h := O) ?_
          refine st (h := sdFA) ?_
          refine st (h := sdL) ?_
          refine cl (h := by exact fun ι hV hl => within_C _ _ _ _) ?_
          refine st (h := sdA) ?_
          refine st (h := O) ?_
          refine nl ?_
          refine sq ?_
          refine rg ?_
          iterate 2 (refine st (h := O) ?_)
          refine nl ?_
          refine rt ⟨?_, rfl⟩
          cases f <;> cases g <;> simp only [moreD, Value.int.injEq, true_and, Bool.and_self, Bool.and_true, Bool.and_false, if_true, Bool.false_eq_true, if_false] <;> (repeat' split) <;> first | omega | simp_all
        · refine sk ?_
          refine sq ?_
          refine rg ?_
          iterate 2 (refine st (h := O) ?_)
          refine nl ?_
          refine rt ⟨?_, rfl⟩
          cases f <;> cases g <;> simp only [moreD, Value.int.injEq, true_and, Bool.and_self, Bool.and_true, Bool.and_false, if_true, Bool.false_eq_true, if_false] <;> (repeat' split) <;> first | omega | simp_all
      · refine sp ?_
        refine st (h := O) ?_
        refine nl ?_
        refine cF ?_
        refine sk ?_
        refine sq ?_
        refine rg ?_
        iterate 2 (refine st (h := O) ?_)
        refine nl ?_
        refine rt ⟨?_, rfl⟩
        cases f <;> cases g <;> simp only [moreD, Value.int.injEq, true_and, Bool.and_self, Bool.and_true, Bool.and_false, if_true, Bool.false_eq_true, if_false] <;> (repeat' split) <;> first | omega | simp_all
theorem r23Bad_C (F : Mem) (y z : Int) : C0 Try.prog 60 [.int .i64 y, .int .i64 z] F (.int .i64 (badD y z)) := by
  unfold badD
  have hy : 0 ≤ min (max y 0) 1099511627776 ∧ min (max y 0) 1099511627776 ≤ 1099511627776 := by omega
  have hz : 0 ≤ min (max z 0) 1099511627776 ∧ min (max z 0) 1099511627776 ≤ 1099511627776 := by omega
  refine C.go hT Try.func60 Try.ntmps60 ?_
  refine sq ?_
  refine rg ?_
  refine st (h := O) ?_
  refine nl ?_
  refine sq ?_
  refine rg ?_
  refine st (h := O) ?_
  refine cl (h := by exact fun ι hV hl => within_C _ _ _ _) ?_
  refine st (h := O) ?_
  refine cl (h := by exact fun ι hV hl => within_C _ _ _ _) ?_
  iterate 2 (refine st (h := O) ?_)
  refine nl ?_
  iterate 2 (refine sq ?_)
  generalize min (max y 0) 1099511627776 = y' at *
  generalize min (max z 0) 1099511627776 = z' at *
  refine rg ?_
  iterate 2 (refine st (h := O) ?_)
  refine nl ?_
  refine cD (fun c0 => ?_) (fun c0 => ?_)
  · refine sq ?_
    refine rg ?_
    refine st (h := O) ?_
    refine nl ?_
    refine rt ⟨?_, rfl⟩
    rw [if_pos c0]
  · refine sk ?_
    iterate 2 (refine sq ?_)
    refine rg ?_
    iterate 2 (refine st (h := O) ?_)
    refine nl ?_
    refine cD (fun c1 => ?_) (fun c1 => ?_)
    · refine sq ?_
      refine rg ?_
      refine st (h := O) ?_
      refine nl ?_
      refine rt ⟨?_, rfl⟩
      rw [if_neg c0, if_pos c1]
    · have hq0 : 0 ≤ 297 * y' / z' := Int.ediv_nonneg (by omega) (by omega)
      have hfl : floorS 297 y' z' = keepS (297 * y' / z') := by rw [floorS, if_neg (by omega)]
      refine sk ?_
      refine sq ?_
      refine rg ?_
      iterate 2 (refine st (h := O) ?_)
      refine cl (h := by exact fun ι hV hl => r01Floor_C _ 297 y' z' (by unfold i64ok; omega) (by unfold i64ok; omega) (by unfold i64ok; omega)) ?_
      rw [hfl]
      generalize 297 * y' / z' = q at *
      by_cases hq : q ≤ 1099511627776
      · rw [show keepS q = (q, true) from by rw [keepS, if_pos (by omega)]]
        iterate 5 (refine st (h := O) ?_)
        refine nl ?_
        iterate 2 (refine sq ?_)
        refine rg ?_
        iterate 3 (refine st (h := O) ?_)
        refine gB (fun g23 => ?_) (fun g23 => ?_)
        · refine sp ?_
          refine sp ?_
          refine st (h := O) ?_
          refine nl ?_
          refine cT ?_
          refine sq ?_
          refine rg ?_
          refine st (h := O) ?_
          refine nl ?_
          first
            | (exfalso; simp at g23; done)
            | exact rt ⟨by rw [if_neg c0, if_neg c1, if_pos (by omega)], rfl⟩
        · refine sg (h := O) ?_
          refine sg (h := O) ?_
          refine st (h := O) ?_
          refine nl ?_
          refine cD (fun c2 => ?_) (fun c2 => ?_)
          · refine sq ?_
            refine rg ?_
            refine st (h := O) ?_
            refine nl ?_
            refine rt ⟨?_, rfl⟩
            rw [if_neg c0, if_neg c1, if_pos (by omega)]
          · have hc3 : 0 ≤ q ∧ q ≤ 1290 := by first | omega | (exfalso; simp at g23; done)
            have := cube_bd hq0 hc3.2
            refine sk ?_
            refine sq ?_
            refine rg ?_
            iterate 2 (refine st (h := O) ?_)
            refine st (h := sdM) ?_
            refine st (h := O) ?_
            refine st (h := sdM) ?_
            refine st (h := sdA) ?_
            refine st (h := sdQ) ?_
            refine st (h := O) ?_
            refine nl ?_
            first
              | (exfalso; simp at g23; done)
              | exact rt ⟨by rw [if_neg c0, if_neg c1, if_neg (by omega)], rfl⟩
      · rw [show keepS q = (0, false) from by rw [keepS, if_neg (by omega)]]
        iterate 5 (refine st (h := O) ?_)
        refine nl ?_
        iterate 2 (refine sq ?_)
        refine rg ?_
        iterate 3 (refine st (h := O) ?_)
        refine gB (fun g23 => ?_) (fun g23 => ?_)
        · refine sp ?_
          refine sp ?_
          refine st (h := O) ?_
          refine nl ?_
          refine cT ?_
          refine sq ?_
          refine rg ?_
          refine st (h := O) ?_
          refine nl ?_
          first
            | (exfalso; simp at g23; done)
            | exact rt ⟨by rw [if_neg c0, if_neg c1, if_pos (by omega)], rfl⟩
        · refine sg (h := O) ?_
          refine sg (h := O) ?_
          refine st (h := O) ?_
          refine nl ?_
          refine cD (fun c2 => ?_) (fun c2 => ?_)
          · refine sq ?_
            refine rg ?_
            refine st (h := O) ?_
            refine nl ?_
            refine rt ⟨?_, rfl⟩
            rw [if_neg c0, if_neg c1, if_pos (by omega)]
          · have hc3 : 0 ≤ q ∧ q ≤ 1290 := by first | omega | (exfalso; simp at g23; done)
            have := cube_bd hq0 hc3.2
            refine sk ?_
            refine sq ?_
            refine rg ?_
            iterate 2 (refine st (h := O) ?_)
            refine st (h := sdM) ?_
            refine st (h := O) ?_
            refine st (h := sdM) ?_
            refine st (h := sdA) ?_
            refine st (h := sdQ) ?_
            refine st (h := O) ?_
            refine nl ?_
            first
              | (exfalso; simp at g23; done)
              | exact rt ⟨by rw [if_neg c0, if_neg c1, if_neg (by omega)], rfl⟩
theorem r23Class_C (F : Mem) (y z : Int) (f : Bool) : C0 Try.prog 61 [.int .i64 y, .int .i64 z, .bool f] F (.int .i64 (classD y z f)) := by
  refine C.go hT Try.func61 Try.ntmps61 ?_
  refine sq ?_
  refine rg ?_
  refine st (h := O) ?_
  refine nl ?_
  refine sq ?_
  refine rg ?_
  iterate 2 (refine st (h := O) ?_)
  refine cl (h := by exact fun ι hV hl => r23Bad_C _ _ _) ?_
  refine st (h := O) ?_
  refine nl ?_
  refine sq ?_
  refine bl ?_
  refine sq ?_
  refine rg ?_
  iterate 3 (refine st (h := O) ?_)
  refine nl ?_
  refine cD (fun c0 => ?_) (fun c0 => ?_)
  · refine sq ?_
    refine rg ?_
    refine st (h := O) ?_
    refine nl ?_
    refine rt ⟨?_, rfl⟩
    simp only [classD, *, if_true, if_false, Bool.false_eq_true]
  · refine sq ?_
    refine rg ?_
    iterate 2 (refine st (h := O) ?_)
    refine nl ?_
    refine cB (fun c1 => ?_) (fun c1 => ?_)
    · refine sq ?_
      refine rg ?_
      refine st (h := O) ?_
      refine nl ?_
      refine rt ⟨?_, rfl⟩
      simp only [classD, *, if_true, if_false, Bool.false_eq_true]
    · refine sq ?_
      refine rg ?_
      iterate 3 (refine st (h := O) ?_)
      refine nl ?_
      refine cD (fun c2 => ?_) (fun c2 => ?_)
      · refine sq ?_
        refine rg ?_
        refine st (h := O) ?_
        refine nl ?_
        refine rt ⟨?_, rfl⟩
        simp only [classD, *, if_true, if_false, Bool.false_eq_true]
      · refine sk ?_
        refine bk ?_
        refine sq ?_
        refine rg ?_
        refine st (h := O) ?_
        refine nl ?_
        refine rt ⟨?_, rfl⟩
        simp only [classD, *, if_true, if_false, Bool.false_eq_true]

end Go.Proofs.Ytbeblgjibfoanaa.Am
namespace Go.Proofs.Ytbeblgjibfoanaa.Am
set_option linter.unusedSimpArgs false
set_option linter.unusedVariables false
set_option maxRecDepth 100000
set_option maxHeartbeats 4000000
open Go Go.RowKit
theorem ends_C (F : Mem) (v : Value) (l : List Item) (a b : Int) (hv : RItems F v l) : C0 Try.prog 48 [v, .int .i64 a, .int .i64 b] F (.bool ((decide (a = -1) || legalB l a) && (legalB l b && decide (a < b)))) := by
  rcases hv.forms with ⟨vb, vo, vc, rfl⟩ | ⟨rfl, rfl⟩
  all_goals
    refine C.go hT Try.func48 Try.ntmps48 ?_
    refine sq ?_
    refine rg ?_
    refine st (h := O) ?_
    refine nl ?_
    refine sq ?_
    refine rg ?_
    iterate 3 (refine st (h := O) ?_)
    refine gD (fun g9 => ?_) (fun g9 => ?_)
    · refine sp ?_
      iterate 2 (refine sp ?_)
      iterate 2 (refine st (h := O) ?_)
      iterate 2 (refine sg (h := O) ?_)
      refine clg (h := by exact fun ι hV hl => RLegal_C _ _ _ _ (hv.le hl)) ?_
      iterate 2 (refine st (h := O) ?_)
      refine gB (fun g19 => ?_) (fun g19 => ?_)
      · refine sg (h := O) ?_
        iterate 2 (refine sg (h := O) ?_)
        iterate 2 (refine st (h := O) ?_)
        refine nl ?_
        refine rt ⟨?_, rfl⟩
        simp_all
      · refine sp ?_
        iterate 2 (refine sp ?_)
        iterate 2 (refine st (h := O) ?_)
        refine nl ?_
        refine rt ⟨?_, rfl⟩
        simp_all
    · refine sg (h := O) ?_
      refine sg (h := O) ?_
      refine clg (h := by exact fun ι hV hl => RLegal_C _ _ _ _ (hv.le hl)) ?_
      iterate 2 (refine st (h := O) ?_)
      refine gB (fun g14 => ?_) (fun g14 => ?_)
      · refine sg (h := O) ?_
        refine sg (h := O) ?_
        refine clg (h := by exact fun ι hV hl => RLegal_C _ _ _ _ (hv.le hl)) ?_
        iterate 2 (refine st (h := O) ?_)
        refine gB (fun g19 => ?_) (fun g19 => ?_)
        · refine sg (h := O) ?_
          iterate 2 (refine sg (h := O) ?_)
          iterate 2 (refine st (h := O) ?_)
          refine nl ?_
          refine rt ⟨?_, rfl⟩
          simp_all
        · refine sp ?_
          iterate 2 (refine sp ?_)
          iterate 2 (refine st (h := O) ?_)
          refine nl ?_
          refine rt ⟨?_, rfl⟩
          simp_all
      · refine sp ?_
        iterate 2 (refine sp ?_)
        iterate 2 (refine st (h := O) ?_)
        iterate 3 (refine sp ?_)
        iterate 2 (refine st (h := O) ?_)
        refine nl ?_
        refine rt ⟨?_, rfl⟩
        simp_all
/-- the reference's first item of a line -/
theorem begin_eq {l : List Item} (hg : goodL l = true) : ∀ d i b, i + d = b → b ≤ l.length → beginAt l b d i = min (bgD l (l.length - i) i) b
  | 0, i, b, h, hb => by
    have := (bgD_bd l (l.length - i) i).1
    simp [beginAt]; omega
  | d + 1, i, b, h, hb => by
    have hi : i < l.length := by omega
    have hk := good_ok hg hi
    simp only [Item.ok, decide_eq_true_eq] at hk
    rw [show l.length - i = (l.length - (i + 1)) + 1 from by omega]
    simp only [beginAt, bgD]
    rw [if_pos (by omega)]
    by_cases hs : skipB (at_ l i) = true
    · rw [if_pos hs, begin_eq hg d (i + 1) b (by omega) hb]
      have h1 : ¬ forceB (at_ l i) = true := by
        simp only [skipB, forceB, Bool.or_eq_true, Bool.and_eq_true, decide_eq_true_eq] at hs ⊢
        omega
      have h2 : ¬ (at_ l i).kind = 1 := by
        simp only [skipB, Bool.or_eq_true, Bool.and_eq_true, decide_eq_true_eq] at hs
        omega
      rw [if_neg h1, if_neg h2]
    · rw [if_neg hs]
      have h1 : forceB (at_ l i) = true ∨ (at_ l i).kind = 1 := by
        simp only [skipB, forceB, Bool.or_eq_true, Bool.and_eq_true, decide_eq_true_eq] at hs ⊢
        omega
      rcases h1 with h1 | h1
      · rw [if_pos h1]; omega
      · split <;> omega
theorem rmeasure_C (F : Mem) (v : Value) (l : List Item) (a : Int) (a1 b : Nat) (hv : RItems F v l) (hg : goodL l = true) (ha : a + 1 = a1) (hab : a1 ≤ b) (hb : b < l.length) : C0 Try.prog 45 [v, .int .i64 a, .int .i64 b] F (.tuple #[.int .i64 (mW l a1 b), .int .i64 (mY l a1 b), .int .i64 (mZ l a1 b)]) := by
  have hlen := good_len hg
  rcases hv.cases with ⟨vb, vo, vc, rfl, _, hr⟩ | ⟨rfl, rfl⟩
  · have hbe : beginAt l (b : Int).toNat ((b : Int).toNat - (a + 1).toNat) (a + 1).toNat = fromA l a1 b := by
      rw [ha, Int.toNat_natCast, Int.toNat_natCast]
      exact begin_eq hg (b - a1) a1 b (by omega) (by omega)
    have hfr : a1 ≤ fromA l a1 b ∧ fromA l a1 b ≤ b := ⟨by unfold fromA; have := (bgD_bd l (l.length - a1) a1).1; unfold bgA; omega, Nat.min_le_right _ _⟩
    unfold mW mY mZ
    generalize fromA l a1 b = f at *
    have hbd : ∀ n, n ≤ l.length → _ := fun n => sums_bd hg n
    have hb0 := hbd b (by omega)
    have hf0 := hbd f (by omega)
    obtain ⟨s0, s1, _⟩ := hr b hb
    refine C.go hT Try.func45 Try.ntmps45 ?_
    refine sq ?_
    refine rg ?_
    iterate 3 (refine st (h := O) ?_)
    refine nl ?_
    refine sq ?_
    refine rg ?_
    iterate 3 (refine st (h := O) ?_)
    refine nl ?_
    iterate 2 (refine sq ?_)
    refine rg ?_
    iterate 3 (refine st (h := O) ?_)
    refine cl (h := by exact fun ι hV hl => RBegin_C _ _ l a b (hv.le hl) (by omega) (by omega) (by omega)) ?_
    rw [hbe]
    refine st (h := O) ?_
    refine nl ?_
    refine bl ?_
    refine J.loop4 (α := Nat) (β := Int) (γ := Int) (δ := Int) (fun i w y z => f ≤ i ∧ i ≤ b ∧ w = wS l i - wS l f ∧ y = yS l i - yS l f ∧ z = zS l i - zS l f) (fun i w y z => [(9, .int .i64 w), (10, .int .i64 y), (11, .int .i64 z), (12, .int .i64 i)]) [(0, _), (2, _)] (fun i w y z => []) [] (fun i w y z => b - i) (f) (0) (0) (0) (by exact ⟨rfl, rfl, rfl, rfl, trivial⟩) (by exact ⟨rfl, rfl, trivial⟩) (by exact trivial) ?_ ?_
    · exact ⟨by omega, by omega, by omega, by omega, by omega⟩
    · intro i w y z L1 K1 e1 e2 hI
      dsimp only [apV, apR, List.cons_append, List.nil_append] at e1 e2
      subst e1 e2
      obtain ⟨hfi, hib, hw, hy, hz⟩ := hI
      iterate 2 (refine sq ?_)
      refine rg ?_
      iterate 3 (refine st (h := O) ?_)
      refine nl ?_
      refine cD (fun c0 => ?_) (fun c0 => ?_)
      · have hil : i < l.length := by omega
        obtain ⟨r0, r1, r2, r3, _⟩ := hr i hil
        have hok := good_ok hg hil
        simp only [Item.ok, decide_eq_true_eq] at hok
        have hi0 := hbd i (by omega)
        have ew : wS l (i + 1) = wS l i + (if (at_ l i).kind = 3 then 0 else (at_ l i).width) := rfl
        have ey : yS l (i + 1) = yS l i + (if (at_ l i).kind = 2 then (at_ l i).stretch else 0) := rfl
        have ez : zS l (i + 1) = zS l i + (if (at_ l i).kind = 2 then (at_ l i).shrink else 0) := rfl
        refine sk ?_
        refine sq ?_
        refine bl ?_
        iterate 2 (refine sq ?_)
        refine rg ?_
        iterate 2 (refine st (h := O) ?_)
        refine st (h := (sdX (z := 11))) ?_
        refine st (h := sdFA) ?_
        refine st (h := sdL) ?_
        refine st (h := O) ?_
        refine nl ?_
        refine cD (fun c1 => ?_) (fun c1 => ?_)
        · refine ex ?_
          refine rg ?_
          refine st (h := O) ?_
          refine st (h := sdA) ?_
          refine st (h := O) ?_
          refine nl ?_
          refine bk4 (i + 1) (_) (_) (_) (by exact ⟨rfl, rfl, rfl, rfl, trivial⟩) (by exact ⟨rfl, rfl, trivial⟩) (by exact trivial) ?_ ?_
          · omega
          · first
              | (rw [if_pos c1] at ew; rw [if_neg (by omega)] at ey ez; exact ⟨by omega, by omega, by omega, by omega, by omega⟩)
              | (rw [if_neg c1] at ew; rw [if_pos c2] at ey ez; exact ⟨by omega, by omega, by omega, by omega, by omega⟩)
              | (rw [if_neg c1] at ew; rw [if_neg c2] at ey ez; exact ⟨by omega, by omega, by omega, by omega, by omega⟩)
        · refine sk ?_
          refine sq ?_
          refine rg ?_
          iterate 3 (refine st (h := O) ?_)
          refine st (h := (sdX (z := 11))) ?_
          refine st (h := sdFA) ?_
          refine st (h := sdL) ?_
          refine st (h := sdA) ?_
          refine st (h := O) ?_
          refine nl ?_
          refine sq ?_
          refine rg ?_
          iterate 2 (refine st (h := O) ?_)
          refine st (h := (sdX (z := 11))) ?_
          refine st (h := sdFA) ?_
          refine st (h := sdL) ?_
          refine st (h := O) ?_
          refine nl ?_
          refine cD (fun c2 => ?_) (fun c2 => ?_)
          · refine sq ?_
            refine rg ?_
            iterate 3 (refine st (h := O) ?_)
            refine st (h := (sdX (z := 11))) ?_
            refine st (h := sdFA) ?_
            refine st (h := sdL) ?_
            refine st (h := sdA) ?_
            refine st (h := O) ?_
            refine nl ?_
            refine rg ?_
            iterate 3 (refine st (h := O) ?_)
            refine st (h := (sdX (z := 11))) ?_
            refine st (h := sdFA) ?_
            refine st (h := sdL) ?_
            refine st (h := sdA) ?_
            refine st (h := O) ?_
            refine nl ?_
            refine bk ?_
            refine rg ?_
            refine st (h := O) ?_
            refine st (h := sdA) ?_
            refine st (h := O) ?_
            refine nl ?_
            refine bk4 (i + 1) (_) (_) (_) (by exact ⟨rfl, rfl, rfl, rfl, trivial⟩) (by exact ⟨rfl, rfl, trivial⟩) (by exact trivial) ?_ ?_
            · omega
            · first
                | (rw [if_pos c1] at ew; rw [if_neg (by omega)] at ey ez; exact ⟨by omega, by omega, by omega, by omega, by omega⟩)
                | (rw [if_neg c1] at ew; rw [if_pos c2] at ey ez; exact ⟨by omega, by omega, by omega, by omega, by omega⟩)
                | (rw [if_neg c1] at ew; rw [if_neg c2] at ey ez; exact ⟨by omega, by omega, by omega, by omega, by omega⟩)
          · refine sk ?_
            refine bk ?_
            refine rg ?_
            refine st (h := O) ?_
            refine st (h := sdA) ?_
            refine st (h := O) ?_
            refine nl ?_
            refine bk4 (i + 1) (_) (_) (_) (by exact ⟨rfl, rfl, rfl, rfl, trivial⟩) (by exact ⟨rfl, rfl, trivial⟩) (by exact trivial) ?_ ?_
            · omega
            · first
                | (rw [if_pos c1] at ew; rw [if_neg (by omega)] at ey ez; exact ⟨by omega, by omega, by omega, by omega, by omega⟩)
                | (rw [if_neg c1] at ew; rw [if_pos c2] at ey ez; exact ⟨by omega, by omega, by omega, by omega, by omega⟩)
                | (rw [if_neg c1] at ew; rw [if_neg c2] at ey ez; exact ⟨by omega, by omega, by omega, by omega, by omega⟩)
      · obtain rfl : i = b := by omega
        have hok := good_ok hg hb
        simp only [Item.ok, decide_eq_true_eq] at hok
        refine ex ?_
        iterate 2 (refine sq ?_)
        refine rg ?_
        iterate 2 (refine st (h := O) ?_)
        refine st (h := (sdX (z := 11))) ?_
        refine st (h := sdFA) ?_
        refine st (h := sdL) ?_
        refine st (h := O) ?_
        refine nl ?_
        refine cD (fun c3 => ?_) (fun c3 => ?_)
        · refine rg ?_
          iterate 3 (refine st (h := O) ?_)
          refine st (h := (sdX (z := 11))) ?_
          refine st (h := sdFA) ?_
          refine st (h := sdL) ?_
          refine st (h := sdA) ?_
          refine st (h := O) ?_
          refine nl ?_
          refine sq ?_
          refine rg ?_
          iterate 6 (refine st (h := O) ?_)
          refine nl ?_
          refine rt ⟨?_, rfl⟩
          subst hw hy hz
          first
            | rw [if_pos c3]
            | rw [if_neg c3, Int.add_zero]
        · refine sk ?_
          refine sq ?_
          refine rg ?_
          iterate 6 (refine st (h := O) ?_)
          refine nl ?_
          refine rt ⟨?_, rfl⟩
          subst hw hy hz
          first
            | rw [if_pos c3]
            | rw [if_neg c3, Int.add_zero]
  · simp at hb
/-- the reference's judgement of a line: none, if a forced break is passed over -/
def toldD (l : List Item) (x : Par) (a1 b : Nat) : Jud := if b ≤ foA l a1 then judD l x a1 b else ⟨0, 0, false⟩
theorem foA_ge {l : List Item} {i b : Nat} (hb : b ≤ l.length) : ∀ k, i ≤ k → k ≤ b → (∀ j, i ≤ j → j < k → forceB (at_ l j) = false) → k ≤ foA l i := by
  have aux : ∀ d i k, i + d = k → k ≤ l.length → (∀ j, i ≤ j → j < k → forceB (at_ l j) = false) → k ≤ foA l i := by
    intro d
    induction d with
    | zero => intro i k h _ _; have := (foD_bd l (l.length - i) i).1; unfold foA; omega
    | succ d ih =>
      intro i k h hk hf
      rw [foA_step (by omega), if_neg (by rw [hf i (by omega) (by omega)]; decide)]
      exact ih (i + 1) k (by omega) hk (fun j h1 h2 => hf j (by omega) h2)
  exact fun k h1 h2 h3 => aux (k - i) i k (by omega) (by omega) h3
theorem foA_le {l : List Item} {i k : Nat} (hk : k < l.length) (hik : i ≤ k) (hf : forceB (at_ l k) = true) : foA l i ≤ k := by
  have aux : ∀ d i, i + d = k → foA l i ≤ k := by
    intro d
    induction d with
    | zero => intro i h; rw [foA_step (by omega)]; obtain rfl : i = k := by omega
              rw [if_pos hf]; exact Nat.le_refl _
    | succ d ih =>
      intro i h
      rw [foA_step (by omega)]
      split
      · omega
      · exact ih (i + 1) (by omega)
  exact aux (k - i) i (by omega)
def judgV (j : Jud) : Value := .agg #[.int .i64 j.bad, .int .i64 j.cls, .bool j.fits]
theorem told24_C (F : Mem) (v : Value) (l : List Item) (a : Int) (a1 b : Nat) (x : Par) (hv : RItems F v l) (hg : goodL l = true) (hx : x.good = true) (ha : a + 1 = a1) (hab : a1 ≤ b) (hb : b < l.length) : C0 Try.prog 43 [v, .int .i64 a, .int .i64 b, x.v] F (judgV (toldD l x a1 b)) := by
  have hlen := good_len hg
  have hM : ∀ G, RItems G v l → C0 Try.prog 45 [v, .int .i64 a, .int .i64 b] G (.tuple #[.int .i64 (mW l a1 b), .int .i64 (mY l a1 b), .int .i64 (mZ l a1 b)]) := fun G h => rmeasure_C G v l a a1 b h hg ha hab hb
  have hfr : fromA l a1 b ≤ b := Nat.min_le_right _ _
  have s1 := sums_bd hg b (by omega)
  have s2 := sums_bd hg (fromA l a1 b) (by omega)
  have hok := good_ok hg hb
  simp only [Item.ok, decide_eq_true_eq] at hok
  have hw : -(1073741824 * 2000) ≤ mW l a1 b ∧ mW l a1 b ≤ 1073741824 * 2000 := by
    unfold mW
    split <;> omega
  have hgx := hx
  simp only [Par.good, decide_eq_true_eq] at hgx
  rcases hv.cases with ⟨vb, vo, vc, rfl, _, hr⟩ | ⟨rfl, rfl⟩
  · have hlt : ∀ k, a1 ≤ k → k < b → forceB (at_ l k) = true → toldD l x a1 b = ⟨0, 0, false⟩ := fun k h1 h2 h3 => by
      have := foA_le (by omega) h1 h3
      rw [toldD, if_neg (by omega)]
    have hge : (∀ j, a1 ≤ j → j < b → forceB (at_ l j) = false) → toldD l x a1 b = judD l x a1 b ∧ b ≤ foA l a1 := fun h => by
      have := foA_ge (by omega) b hab (Nat.le_refl _) h
      exact ⟨by rw [toldD, if_pos this], this⟩
    have hjd : b ≤ foA l a1 → judD l x a1 b = if x.w - mW l a1 b < 0 then ⟨badD (-(x.w - mW l a1 b)) (mZ l a1 b), classD (-(x.w - mW l a1 b)) (mZ l a1 b) true, decide (badD (-(x.w - mW l a1 b)) (mZ l a1 b) ≤ x.tol) && decide (-(x.w - mW l a1 b) ≤ mZ l a1 b)⟩
      else ⟨badD (x.w - mW l a1 b) (mY l a1 b), classD (x.w - mW l a1 b) (mY l a1 b) false, decide (badD (x.w - mW l a1 b) (mY l a1 b) ≤ x.tol)⟩ := fun h => by
      have h' : (b : Int) ≤ foA l a1 := by omega
      unfold judD
      simp only [h', decide_true, Bool.true_and]
    clear s1 s2 hok hfr
    generalize mW l a1 b = w at *
    generalize mY l a1 b = y at *
    generalize mZ l a1 b = z at *
    obtain ⟨xw, tol, line, twice, odd⟩ := x
    simp only [Par.v] at hgx hx hjd ⊢
    refine C.go hT Try.func43 Try.ntmps43 ?_
    refine sq ?_
    refine rg ?_
    refine bx ?_
    refine al ?_
    refine nl ?_
    iterate 2 (refine sq ?_)
    refine rg ?_
    refine st (h := O) ?_
    refine st (h := sdA) ?_
    refine st (h := O) ?_
    refine nl ?_
    refine bl ?_
    rw [ha]
    refine J.loop1 (α := Nat) (fun i => a1 ≤ i ∧ i ≤ b ∧ ∀ j, a1 ≤ j → j < i → forceB (at_ l j) = false) (fun i => [(9, .int .i64 i)]) [(0, _), (1, _), (2, _), (7, _), (8, _)] (fun i => []) [(8, _), (7, _)] (fun i => b - i) (a1) (by exact ⟨rfl, trivial⟩) (by exact ⟨rfl, rfl, rfl, rfl, rfl, trivial⟩) (by exact ⟨rfl, rfl, rfl, rfl, trivial⟩) ?_ ?_
    · exact ⟨Nat.le_refl _, hab, fun j h1 h2 => by omega⟩
    · intro i L1 K1 e1 e2 hI
      dsimp only [apV, apR, List.cons_append, List.nil_append] at e1 e2
      subst e1 e2
      obtain ⟨hai, hib, hfo⟩ := hI
      iterate 2 (refine sq ?_)
      refine rg ?_
      iterate 3 (refine st (h := O) ?_)
      refine nl ?_
      refine cD (fun c0 => ?_) (fun c0 => ?_)
      · have hil : i < l.length := by omega
        obtain ⟨r0, r1, r2, r3, r4, r5, g, hg2, hri⟩ := hr i hil
        have hN : rdN F (Am.setK 0 {elem := 0, cs := [], room := 0} []) ⟨vb, vo + (i : Int).toNat * 11, none⟩ 11 = some ((at_ l i).cells g) := hg2
        have hN2 : ∀ K, rdN F K ⟨vb, vo + (i : Int).toNat * 11, none⟩ 11 = some ((at_ l i).cells g) := fun K => hg2
        have hsv := hri.sl
        rcases hri with (⟨gb, go, gc, rfl, _, _⟩ | ⟨rfl, _⟩) | ⟨gb, go, gsp, rfl, _⟩
        all_goals
          refine sk ?_
          refine sq ?_
          refine bl ?_
          refine sq ?_
          refine rg ?_
          iterate 2 (refine st (h := O) ?_)
          refine st (h := (sdX (z := 11))) ?_
          refine st (h := sdLN (hv := hN2 _)) ?_
          refine cl (h := by exact fun ι hV hl => rforced_C _ (at_ l i) _ hsv) ?_
          refine nl ?_
          refine cB (fun c1 => ?_) (fun c1 => ?_)
          · refine sq ?_
            refine rg ?_
            refine st (h := O) ?_
            refine so ?_
            refine nl ?_
            refine rt ⟨?_, rfl⟩
            rw [hlt i hai (by omega) c1]; rfl
          · refine sk ?_
            refine bk ?_
            refine rg ?_
            refine st (h := O) ?_
            refine st (h := sdA) ?_
            refine st (h := O) ?_
            refine nl ?_
            refine bk1 (i + 1) (by exact ⟨rfl, trivial⟩) (by exact ⟨rfl, rfl, rfl, rfl, rfl, trivial⟩) (by exact ⟨rfl, rfl, rfl, rfl, trivial⟩) ?_ ?_
            · omega
            · refine ⟨by omega, by omega, fun j h1 h2 => ?_⟩
              by_cases h : j = i
              · subst h; exact c1
              · exact hfo j h1 (by omega)
      · obtain rfl : i = b := by omega
        obtain ⟨ht1, ht2⟩ := hge hfo
        replace hjd := hjd ht2
        rw [ht1, hjd]
        refine ex ?_
        refine sq ?_
        refine rg ?_
        iterate 3 (refine st (h := O) ?_)
        refine cl (h := by exact fun ι hV hl => hM _ (hv.le hl)) ?_
        iterate 7 (refine st (h := O) ?_)
        refine nl ?_
        refine sq ?_
        refine rg ?_
        refine st (h := sdFA) ?_
        refine st (h := sdL) ?_
        refine st (h := O) ?_
        refine st (h := sdS) ?_
        refine st (h := O) ?_
        refine nl ?_
        iterate 2 (refine sq ?_)
        refine rg ?_
        iterate 2 (refine st (h := O) ?_)
        refine nl ?_
        refine cD (fun c2 => ?_) (fun c2 => ?_)
        · refine sq ?_
          refine rg ?_
          iterate 2 (refine st (h := O) ?_)
          refine cl (h := by exact fun ι hV hl => r23Bad_C _ _ _) ?_
          refine st (h := O) ?_
          refine nl ?_
          refine sq ?_
          refine dr 9 [8, 7] [0, 1, 2, 4, 5, 6, 7, 1003, 8, 1009] ?_
          iterate 4 (refine dt (hv := by exact O) ?_)
          refine dt (hv := by exact sdFA) ?_
          refine dt (hv := by exact sdL) ?_
          refine dt (hv := by exact O) ?_
          refine dcl (hkp := by first | exact Kept.all | exact Kept.k0 | exact Kept.kY) (h := by exact fun ι hV hl => r23Class_C _ _ _ _) ?_
          refine dt (hv := by exact O) ?_
          refine dso ?_
          refine dn ?_
          refine rt ⟨?_, rfl⟩
          first | rw [if_neg (by omega)] | rw [if_pos (by omega)]
          simp [judgV, *]
          try rfl
        · refine sk ?_
          refine sq ?_
          refine rg ?_
          refine st (h := O) ?_
          refine st (h := sdN) ?_
          refine st (h := O) ?_
          refine cl (h := by exact fun ι hV hl => r23Bad_C _ _ _) ?_
          refine st (h := O) ?_
          refine nl ?_
          refine sq ?_
          refine dr 16 [8, 7] [0, 1, 2, 3, 5, 6, 7, 8, 1004, 9, 10, 11, 12, 13, 14, 15, 1016] ?_
          iterate 2 (refine dt (hv := by exact O) ?_)
          refine dt (hv := by exact sdN) ?_
          iterate 2 (refine dt (hv := by exact O) ?_)
          refine dt (hv := by exact sdFA) ?_
          refine dt (hv := by exact sdL) ?_
          refine dt (hv := by exact O) ?_
          refine dcl (hkp := by first | exact Kept.all | exact Kept.k0 | exact Kept.kY) (h := by exact fun ι hV hl => r23Class_C _ _ _ _) ?_
          refine dt (hv := by exact O) ?_
          refine dgD (fun g68 => ?_) (fun g68 => ?_)
          · refine dg (hv := by exact O) ?_
            refine dg (hv := by exact sdN) ?_
            iterate 2 (refine dg (hv := by exact O) ?_)
            iterate 2 (refine dt (hv := by exact O) ?_)
            refine dso ?_
            refine dn ?_
            refine rt ⟨?_, rfl⟩
            first | rw [if_neg (by omega)] | rw [if_pos (by omega)]
            simp [judgV, *]
            try rfl
          · refine dp ?_
            iterate 3 (refine dp ?_)
            iterate 2 (refine dt (hv := by exact O) ?_)
            refine dso ?_
            refine dn ?_
            refine rt ⟨?_, rfl⟩
            first | rw [if_neg (by omega)] | rw [if_pos (by omega)]
            simp [judgV, *]
            try rfl
  · simp at hb

end Go.Proofs.Ytbeblgjibfoanaa.Am
namespace Go.Proofs.Ytbeblgjibfoanaa.Am
set_option linter.unusedSimpArgs false
set_option linter.unusedVariables false
set_option maxRecDepth 100000
set_option maxHeartbeats 4000000
open Go Go.RowKit
theorem R24Legal_C (F : Mem) (v : Value) (l : List Item) (i : Int) (hv : RItems F v l) : C0 Try.prog 27 [v, .int .i64 i] F (.bool (goodL l && legalB l i)) := by
  rcases hv.forms with ⟨vb, vo, vc, rfl⟩ | ⟨rfl, rfl⟩
  all_goals
    refine C.go hT Try.func27 Try.ntmps27 ?_
    refine sq ?_
    refine rg ?_
    refine st (h := O) ?_
    refine nl ?_
    refine sq ?_
    refine rg ?_
    refine st (h := O) ?_
    refine cl (h := by exact fun ι hV hl => RGood_C _ _ _ (hv.le hl)) ?_
    refine st (h := O) ?_
    refine gB (fun g7 => ?_) (fun g7 => ?_)
    · refine sg (h := O) ?_
      refine sg (h := O) ?_
      refine clg (h := by exact fun ι hV hl => RLegal_C _ _ _ _ (hv.le hl)) ?_
      iterate 2 (refine st (h := O) ?_)
      refine nl ?_
      refine rt ⟨?_, rfl⟩
      simp_all
    · refine sp ?_
      iterate 2 (refine sp ?_)
      iterate 2 (refine st (h := O) ?_)
      refine nl ?_
      refine rt ⟨?_, rfl⟩
      simp_all
theorem ends_iff {l : List Item} {a b : Int} (hg : goodL l = true) : ((decide (a = -1) || legalB l a) && (legalB l b && decide (a < b))) = lineB l a b := by
  rw [Bool.eq_iff_iff]
  simp only [lineB, hg, Bool.true_and, Bool.and_eq_true, Bool.or_eq_true, decide_eq_true_eq]
  constructor
  · rintro ⟨h1, h2, h3⟩; exact ⟨⟨h2, h3⟩, h1⟩
  · rintro ⟨⟨h2, h3⟩, h1⟩; exact ⟨h1, h2, h3⟩
theorem R24Measure_C (F : Mem) (v : Value) (l : List Item) (a b : Int) (hv : RItems F v l) : C0 Try.prog 26 [v, .int .i64 a, .int .i64 b] F (.tuple #[.int .i64 (measD l a b).1, .int .i64 (measD l a b).2.1, .int .i64 (measD l a b).2.2]) := by
  have hno : ¬ lineB l a b = true → measD l a b = (0, 0, 0) := lineB_no
  rcases hv.forms with ⟨vb, vo, vc, rfl⟩ | ⟨rfl, rfl⟩
  ·
    refine C.go hT Try.func26 Try.ntmps26 ?_
    refine sq ?_
    refine rg ?_
    iterate 3 (refine st (h := O) ?_)
    refine nl ?_
    iterate 2 (refine sq ?_)
    refine rg ?_
    refine st (h := O) ?_
    refine cl (h := by exact fun ι hV hl => RGood_C _ _ l (hv.le hl)) ?_
    iterate 2 (refine st (h := O) ?_)
    refine gB (fun g12 => ?_) (fun g12 => ?_)
    · refine sp ?_
      iterate 4 (refine sp ?_)
      refine st (h := O) ?_
      refine nl ?_
      refine cT ?_
      refine sq ?_
      refine rg ?_
      iterate 3 (refine st (h := O) ?_)
      refine nl ?_
      refine rt ⟨?_, rfl⟩
      rw [hno (fun h => not_of g12 (lineB_facts h).1)]
    · refine sg (h := O) ?_
      iterate 2 (refine sg (h := O) ?_)
      refine clg (h := by exact fun ι hV hl => ends_C _ _ l _ _ (hv.le hl)) ?_
      rw [ends_iff (of_not g12)]
      refine sg (h := O) ?_
      refine st (h := O) ?_
      refine nl ?_
      refine cB (fun c0 => ?_) (fun c0 => ?_)
      · refine sq ?_
        refine rg ?_
        iterate 3 (refine st (h := O) ?_)
        refine nl ?_
        refine rt ⟨?_, rfl⟩
        rw [hno (not_of c0)]
      · have hB := of_not c0
        obtain ⟨hgl, hb0, hbl, ha0, hab⟩ := lineB_facts hB
        obtain ⟨a1, ha1⟩ := Int.eq_ofNat_of_zero_le (show (0 : Int) ≤ a + 1 by omega)
        obtain ⟨b1, rfl⟩ := Int.eq_ofNat_of_zero_le hb0
        refine sk ?_
        refine sq ?_
        refine rg ?_
        iterate 3 (refine st (h := O) ?_)
        refine cl (h := by exact fun ι hV hl => rmeasure_C _ _ l a a1 b1 (hv.le hl) hgl ha1 (by omega) (by omega)) ?_
        iterate 6 (refine st (h := O) ?_)
        refine nl ?_
        refine rt ⟨?_, rfl⟩
        simp only [measD, if_pos hB, ha1, Int.toNat_natCast]
  · rw [hno (fun h => by cases (lineB_facts h).1)]
    refine C.go hT Try.func26 Try.ntmps26 ?_
    refine sq ?_
    refine rg ?_
    iterate 3 (refine st (h := O) ?_)
    refine nl ?_
    iterate 2 (refine sq ?_)
    refine rg ?_
    refine st (h := O) ?_
    refine cl (h := by exact fun ι hV hl => RGood_C _ _ [] (hv.le hl)) ?_
    iterate 2 (refine st (h := O) ?_)
    refine gB (fun g12 => ?_) (fun g12 => ?_)
    · refine sp ?_
      iterate 4 (refine sp ?_)
      refine st (h := O) ?_
      refine nl ?_
      refine cT ?_
      refine sq ?_
      refine rg ?_
      iterate 3 (refine st (h := O) ?_)
      refine nl ?_
      exact rt ⟨rfl, rfl⟩
    · cases of_not g12
theorem toldD_fits {l : List Item} {x : Par} {a1 b : Nat} : (toldD l x a1 b).fits = (judD l x a1 b).fits := by
  unfold toldD
  split
  · rfl
  · rename_i h
    have h' : ¬ (b : Int) ≤ foA l a1 := by omega
    unfold judD
    split <;> simp [h']
theorem toldD_eq {l : List Item} {x : Par} {a1 b : Nat} (h : (judD l x a1 b).fits = true) : toldD l x a1 b = judD l x a1 b := by
  unfold toldD
  split
  · rfl
  · rename_i h2
    have h' : ¬ (b : Int) ≤ foA l a1 := by omega
    unfold judD at h
    split at h <;> simp [h'] at h
theorem R24Fits_C (F : Mem) (v : Value) (l : List Item) (a b : Int) (x : Par) (hv : RItems F v l) : C0 Try.prog 28 [v, .int .i64 a, .int .i64 b, x.v] F (.bool (fitsD l a b x)) := by
  have hno : ¬ lineB l a b = true → fitsD l a b x = false := fun h => by simp [fitsD, h]
  have hno2 : ¬ x.good = true → fitsD l a b x = false := fun h => by simp [fitsD, h]
  have hye : x.good = true → lineB l a b = true → fitsD l a b x = (judD l x (a + 1).toNat b.toNat).fits := fun h1 h2 => by simp [fitsD, h1, h2]
  obtain ⟨xw, tol, line, twice, odd⟩ := x
  dsimp only [Par.v]
  rcases hv.forms with ⟨vb, vo, vc, rfl⟩ | ⟨rfl, rfl⟩
  ·
    refine C.go hT Try.func28 Try.ntmps28 ?_
    refine sq ?_
    refine rg ?_
    refine bx ?_
    refine st (h := O) ?_
    refine nl ?_
    refine sq ?_
    refine rg ?_
    refine st (h := O) ?_
    refine cl (h := by exact fun ι hV hl => RGood_C _ _ l (hv.le hl)) ?_
    refine st (h := O) ?_
    refine gB (fun g11 => ?_) (fun g11 => ?_)
    · refine sg (h := sdLN) ?_
      refine clg (h := by exact fun ι hV hl => r23Good_C _ ⟨xw, tol, line, twice, odd⟩) ?_
      iterate 2 (refine st (h := O) ?_)
      refine gB (fun g15 => ?_) (fun g15 => ?_)
      · refine sg (h := O) ?_
        iterate 2 (refine sg (h := O) ?_)
        refine clg (h := by exact fun ι hV hl => ends_C _ _ l _ _ (hv.le hl)) ?_
        rw [ends_iff g11]
        iterate 2 (refine st (h := O) ?_)
        refine gB (fun g21 => ?_) (fun g21 => ?_)
        · have hB := g21
          obtain ⟨hgl, hb0, hbl, ha0, hab⟩ := lineB_facts hB
          obtain ⟨a1, ha1⟩ := Int.eq_ofNat_of_zero_le (show (0 : Int) ≤ a + 1 by omega)
          obtain ⟨b1, rfl⟩ := Int.eq_ofNat_of_zero_le hb0
          iterate 3 (refine sg (h := O) ?_)
          refine sg (h := sdLN) ?_
          refine clg (h := by exact fun ι hV hl => told24_C _ _ l a a1 b1 ⟨xw, tol, line, twice, odd⟩ (hv.le hl) hgl g15 ha1 (by omega) (by omega)) ?_
          refine sg (h := O) ?_
          iterate 2 (refine st (h := O) ?_)
          refine nl ?_
          refine rt ⟨?_, rfl⟩
          rw [hye g15 hB, toldD_fits]
          simp only [ha1, Int.toNat_natCast]
        · refine sp ?_
          iterate 5 (refine sp ?_)
          iterate 2 (refine st (h := O) ?_)
          refine nl ?_
          refine rt ⟨?_, rfl⟩
          rw [hno (fun h => by rw [h] at g21; cases g21)]
      · refine sp ?_
        iterate 3 (refine sp ?_)
        iterate 2 (refine st (h := O) ?_)
        iterate 6 (refine sp ?_)
        iterate 2 (refine st (h := O) ?_)
        refine nl ?_
        refine rt ⟨?_, rfl⟩
        rw [hno2 (fun h => by rw [h] at g15; cases g15)]
    · refine sp ?_
      refine sp ?_
      iterate 2 (refine st (h := O) ?_)
      iterate 4 (refine sp ?_)
      iterate 2 (refine st (h := O) ?_)
      iterate 6 (refine sp ?_)
      iterate 2 (refine st (h := O) ?_)
      refine nl ?_
      refine rt ⟨?_, rfl⟩
      rw [hno (fun h => by rw [(lineB_facts h).1] at g11; cases g11)]
  · rw [hno (fun h => by cases (lineB_facts h).1)]
    refine C.go hT Try.func28 Try.ntmps28 ?_
    refine sq ?_
    refine rg ?_
    refine bx ?_
    refine st (h := O) ?_
    refine nl ?_
    refine sq ?_
    refine rg ?_
    refine st (h := O) ?_
    refine cl (h := by exact fun ι hV hl => RGood_C _ _ [] (hv.le hl)) ?_
    refine st (h := O) ?_
    refine gB (fun g11 => ?_) (fun g11 => ?_)
    · cases g11
    · refine sp ?_
      refine sp ?_
      iterate 2 (refine st (h := O) ?_)
      iterate 4 (refine sp ?_)
      iterate 2 (refine st (h := O) ?_)
      iterate 6 (refine sp ?_)
      iterate 2 (refine st (h := O) ?_)
      refine nl ?_
      exact rt ⟨rfl, rfl⟩

end Go.Proofs.Ytbeblgjibfoanaa.Am
namespace Go.Proofs.Ytbeblgjibfoanaa.Am
set_option linter.unusedSimpArgs false
set_option linter.unusedVariables false
open Go Go.RowKit
/-! A call and an operation that may come up one or the other first. -/
section
variable {X : Cx} {F F0 : Mem} {L : Slots} {K K0 : Own} {s : List SI} {l : List Oper} {b : Nat} {D : List Nat} {p : List (Nat × Bool)} {listed : Array Bool}
theorem JD.twoC {i j f d : Nat} {o o2 : Oper} {args : Array Operand} {ts : Array TypeId} {vs : List Value} {Q : Value → List (Nat × Row) → Prop} {c : Nat} (hi : i < 100) (hj : j < 100) (ho : l[i]? = some o) (ho2 : l[j]? = some o2) (hg : o.guard = none) (hg2 : o2.guard = none)
    (hop : o.op = .call ⟨.value (.func f), args, ts⟩) (hd : o.dst = some d) (hN : d < X.N) (hargs : mapE (evO L) args.toList = some vs) (hfn : fnOk X.P f = true) (hkp : Kept b F0 K0 (listed.setIfInBounds i true) F K) (hc : c = 10000 + 100 * i + j ∨ c = 10000 + 100 * j + i)
    (h : ∀ ι, Val ι K F → F.le (push ι K F) → C X.P f (vs.map (rV ι)) (push ι K F) Q)
    (hk : ∀ v Y, Q v Y → (∀ κ, rV κ v = v) → (∀ x ∈ Y, ∀ u ∈ x.2.cs, plain1 u = true) → New F Y → JD X l b F0 K0 D ((j, false) :: p) (listed.setIfInBounds i true) s (F.add Y) ((d, v) :: L) K)
    (h2 : Go1 X.P X.N D F L K o2 (fun F' L' K' => Kept b F0 K0 (listed.setIfInBounds j true) F' K' ∧ JD X l b F0 K0 D ((i, false) :: p) (listed.setIfInBounds j true) s F' L' K')) : JD X l b F0 K0 D ((c, false) :: p) listed s F L K := by
  intro hp hok ι0 ι a w hF hS hag hS0
  have hbig5 : ¬ (c < 5000) := by omega
  have hbig : ¬ (c < 10000) := by omega
  have hbig2 : c < 1000000 := by omega
  have hsp : ∃ i' j', c / 100 % 100 = i' ∧ c % 100 = j' ∧ ((i' = i ∧ j' = j) ∨ (i' = j ∧ j' = i)) := ⟨_, _, rfl, rfl, by omega⟩
  obtain ⟨i', j', e1, e2, hij⟩ := hsp
  simp only [planOk, hbig5, hbig, hbig2, if_true, if_false, e1, e2, Bool.and_eq_true, beq_iff_eq, bne_iff_ne, ne_eq] at hp
  obtain ⟨p1, p2, p3, p4, p5⟩ := hp
  have hboth : i ≠ j ∧ (∀ k, k ∈ [i', j'] → k = i ∨ k = j) ∧ planOk l b (listed.setIfInBounds i true) ((j, false) :: p) = true ∧ planOk l b (listed.setIfInBounds j true) ((i, false) :: p) = true := by
    have hlt : i' < 5000 ∧ j' < 5000 := by omega
    have q1 : planOk l b (listed.setIfInBounds i' true) ((j', false) :: p) = true := by
      simp only [planOk, hlt.2, if_true, p3, beq_self_eq_true, Bool.true_and]; exact p5
    have q2 : planOk l b (listed.setIfInBounds j' true) ((i', false) :: p) = true := by
      simp only [planOk, hlt.1, if_true, p4, beq_self_eq_true, Bool.true_and]
      rw [Array.setIfInBounds_comm _ _ (Ne.symm p2)]; exact p5
    rcases hij with ⟨rfl, rfl⟩ | ⟨rfl, rfl⟩
    · exact ⟨p2, fun k hk => by simpa using hk, q1, q2⟩
    · exact ⟨Ne.symm p2, fun k hk => by simp at hk; omega, q2, q1⟩
  obtain ⟨_, hmem, hp1, hp2⟩ := hboth
  rw [show pl ((c, false) :: p) = (pl p + 1) + 1 from by simp [pl, hbig5, hbig, hbig2]]
  refine ⟨fun h0 => (by rw [p1] at h0; cases h0), fun k hk' => ?_⟩
  rw [p1] at hk'
  have hlen1 : pl ((j, false) :: p) = pl p + 1 := by simp [pl, show j < 5000 from by omega]
  have hlen2 : pl ((i, false) :: p) = pl p + 1 := by simp [pl, show i < 5000 from by omega]
  rcases hmem k hk' with rfl | rfl
  · have ho' : l.toArray[k]? = some o := by simpa using ho
    unfold wpOp
    simp only [ho', Region.wanted, hg, if_true]
    left
    simp only [Oper.wp, callee_run (e := evO L) (fun x u hu => hF.ev hu) hop rfl rfl hargs hfn w, Oper.upon]
    have hcc := h ι hS.val hS.val.le ι w (hS.push ι)
    rw [map_cV_rV] at hcc
    simp only [List.nil_append, List.append_nil]
    refine hcc.mono fun e w' ⟨v, Y, g1, g2, g5, g3, g4⟩ => ?_
    subst g1
    have hS' := hS.pull g3
    have hkp' : Kept b F0 K0 (listed.setIfInBounds k true) (F.add Y) K := by
      rcases hkp with hkp | ⟨hkp, Z, rfl⟩
      · exact .inl hkp
      · exact .inr ⟨hkp, Y ++ Z, by simp [Mem.add]⟩
    have hst : (listed.setIfInBounds k true).getD b false = false → St F0 ι0 K0 w' := fun hl => hkp'.st hS' hag hok.tgk hl
    rw [hd]
    have := hF.put hN v
    refine ⟨hst, ?_⟩
    have hk2 := hk v Y g4 g2 g5 (hS'.new_ g5) hp1 hok ι0 ι _ w' this hS' hag hst
    rw [hlen1] at hk2
    exact hk2
  · obtain ⟨ι1, w1, v, F1, L1, K1, hrun, h1, h2', h3, h4, h5⟩ := h2 ι a w hF hS
    have hag1 : ∀ u ∈ D, ι1 u = ι0 u := fun u hu => (h3 u hu).trans (hag u hu)
    have ho'' : l.toArray[k]? = some o2 := by simpa using ho2
    unfold wpOp
    simp only [ho'', Region.wanted, hg2, if_true]
    left
    have hk2 := h5 hp2 hok ι0 ι1 _ w1 h1 h2' hag1 (fun hl => h4.st h2' hag1 hok.tgk hl)
    rw [hlen2] at hk2
    have hk3 := And.intro (fun hl => h4.st (D := D) h2' hag1 hok.tgk hl) hk2
    simp only [Oper.wp]
    rcases hrun with hr | ⟨hr, rfl⟩
    · rw [hr]; exact hk3
    · rw [hr]; exact hk3
end
/-! Several numbers of a row of numbers, written at once. -/
def setIs (T : Nat → Int) (o : Nat) : List Int → Nat → Int
  | [] => T
  | y :: ys => setIs (setI T o y) (o + 1) ys
theorem gI_puts (n : Nat) : ∀ (ys : List Int) (T : Nat → Int) (o : Nat), putL (gI T n) o (ivs ys) = gI (setIs T o ys) n
  | [], _, _ => rfl
  | y :: ys, T, o => by
    have h := gI_put T n o y
    show putL ((gI T n).set o (.int .i64 y)) (o + 1) (ivs ys) = _
    rw [show (gI T n).set o (.int .i64 y) = gI (setI T o y) n from h, gI_puts n ys]
    rfl
theorem ivs_plain (ys : List Int) : (ivs ys).all plain1 = true := by
  simp [ivs, plain1, plain0]
section
variable {P : Program} {N : Nat} {D : List Nat} {Θ : Tab} {F : Mem} {K : Own} {L : Slots} {T : Pst} (hθ : tabOk P Θ = true)
include hθ
theorem Go1.storeGn {o : Oper} {ty : TypeId} {x y : Operand} {t off n : Nat} {ys : List Int} {G : Nat → Int} {r : Row} {ti : Ty} (ho : o.op = .store ty x y) (hd : o.dst = none) (hi : Θ.lookup ty = some ti)
    (hx : evO L x = some (.pointer (some ⟨t, off, some 0⟩))) (hy : evO L y = some (.agg ⟨ivs ys⟩)) (hr : K.lookup t = some r) (hcs : r.cs = gI G n) (hsz : ti.size = ys.length) (hle : off + ys.length ≤ n)
    (h : T F L (setK t { r with cs := gI (setIs G off ys) n } K)) : Go1 P N D F L K o T := by
  have hc : cellsL (.agg ⟨ivs ys⟩) = ivs ys := rfl
  have hok : okV (.agg ⟨ivs ys⟩) = true := by
    simp [okV, ivs, Value.oneCell']
  refine Go1.store hθ ho hd hi hx hy hok hr (by rw [hc, ivs_length, hsz]) (by rw [hc, ivs_length, hcs, gI_length]; exact hle) ?_
  have e : putL r.cs off (cellsL (.agg ⟨ivs ys⟩)) = gI (setIs G off ys) n := by rw [hcs, hc]; exact gI_puts n ys G off
  rw [e]
  have e2 : (r.flat && (cellsL (.agg ⟨ivs ys⟩)).all plain1) = r.flat := by rw [hc, ivs_plain, Bool.and_true]
  rw [e2]
  exact h
end
section
variable {X : Cx} {F F0 : Mem} {L : Slots} {K K0 : Own} {s : List SI} {ops : Array Oper} {o : Oper} {l : List Oper} {Θ : Tab}
theorem soGn {ty : TypeId} {x y : Operand} {t off n : Nat} {ys : List Int} {G : Nat → Int} {r : Row} {ti : Ty} (hk : JL X ops l s F L (setK t { r with cs := gI (setIs G off ys) n } K))
    (hg : o.guard = none := by rfl) (ho : o.op = .store ty x y := by rfl) (hd : o.dst = none := by rfl) (hθ : tabOk X.P Θ = true := by exact hT) (hi : Θ.lookup ty = some ti := by rfl)
    (hx : evO L x = some (.pointer (some ⟨t, off, some 0⟩)) := by rfl) (hy : evO L y = some (.agg ⟨ivs ys⟩) := by rfl) (hr : K.lookup t = some r := by rfl) (hcs : r.cs = gI G n := by rfl) (hsz : ti.size = ys.length := by rfl) (hle : off + ys.length ≤ n := by (try dsimp only [List.length]); omega) : JL X ops (o :: l) s F L K :=
  JL.step hg (Go1.storeGn hθ ho hd hi hx hy hr hcs hsz hle hk)
end
section
variable {X : Cx} {F F0 : Mem} {L : Slots} {K K0 : Own} {s : List SI} {l : List Oper} {b : Nat} {D : List Nat} {p : List (Nat × Bool)} {listed : Array Bool}
theorem dclgC {i f d j e : Nat} {want : Bool} {o : Oper} {args : Array Operand} {ts : Array TypeId} {vs : List Value} {Q : Value → List (Nat × Row) → Prop}
    (hk : ∀ v Y, Q v Y → (∀ κ, rV κ v = v) → (∀ x ∈ Y, ∀ u ∈ x.2.cs, plain1 u = true) → New F Y → JD X l b F0 K0 D p (listed.setIfInBounds i true) s (F.add Y) ((d, v) :: L) K)
    (hkp : Kept b F0 K0 (listed.setIfInBounds i true) F K := by first | exact Kept.same | exact Kept.all) (ho : l[i]? = some o := by rfl) (hg : o.guard = some (j, want) := by rfl) (hj : (l[j]?).bind (·.dst) = some e := by rfl) (hb : L.lookup e = some (.bool want) := by rfl) (hop : o.op = .call ⟨.value (.func f), args, ts⟩ := by rfl) (hd : o.dst = some d := by rfl) (hN : d < X.N := by exact Nat.le_of_ble_eq_true rfl) (hargs : mapE (evO L) args.toList = some vs := by rfl) (hfn : fnOk X.P f = true := by kernel_rfl) (hi9 : i < 5000 := by exact Nat.le_of_ble_eq_true rfl) (h : ∀ ι, Val ι K F → F.le (push ι K F) → C X.P f (vs.map (rV ι)) (push ι K F) Q) : JD X l b F0 K0 D ((i, false) :: p) listed s F L K :=
  JD.callC_ hi9 ho (fun ι a hF => by rw [JL.wanted (ops := l.toArray) hF hg (by simpa using hj) hb]; simp) hop hd hN hargs hfn hkp h hk
end
/-! Two that may come up, and what comes behind goes on by the choice that was made: the plan's rest is told for each. -/
def JS (X : Cx) (l : List Oper) (b : Nat) (F0 : Mem) (K0 : Own) (D : List Nat) (p : List (Nat × Bool)) (listed : Array Bool) (s : List SI) (i : Nat) : Pst := fun F L K =>
  ∀ (ι0 ι : Nat → Nat) (a : Act) (w : World), Fr X.N ι L a → St F ι K w → (∀ u ∈ D, ι u = ι0 u) → JDok X l K0 D →
    wpOp X.P l.toArray (Lft X.N X.D ι0 (sem X s)) i (fun a' w' => ((listed.setIfInBounds i true).getD b false = false → St F0 ι0 K0 w') ∧ wpAnyB X.P .any l.toArray (Lft X.N X.D ι0 (sem X s)) b (fun w => St F0 ι0 K0 w) (pl p) (listed.setIfInBounds i true) a' w') a w
section
variable {X : Cx} {F F0 : Mem} {L : Slots} {K K0 : Own} {s : List SI} {l : List Oper} {b : Nat} {D : List Nat} {p : List (Nat × Bool)} {listed : Array Bool}
theorem JD.alt {i j k n : Nat} (q1 q2 : List Nat) (h1 : JS X l b F0 K0 D (pm q1) listed s i F L K) (h2 : JS X l b F0 K0 D (pm q2) listed s j F L K) (hr : (Region.ready .any l.toArray listed == [i, j]) = true := by kernel_rfl)
    (hk : ¬ k < 5000 := by omega) (hk2 : k < 10000 := by omega) (hkn : k - 5000 = n + 1 := by rfl) (e1 : pl (pm q1) = n := by kernel_rfl) (e2 : pl (pm q2) = n := by kernel_rfl) : JD X l b F0 K0 D ((k, false) :: p) listed s F L K := by
  intro hp hok ι0 ι a w hF hS hag hS0
  have e : pl ((k, false) :: p) = n + 1 := by
    unfold pl
    rw [if_neg hk, if_pos hk2, hkn]
  rw [e]
  have hr' : Region.ready .any l.toArray listed = [i, j] := by simpa using hr
  refine ⟨fun h0 => (by rw [hr'] at h0; cases h0), fun m hm => ?_⟩
  rw [hr'] at hm
  simp only [List.mem_cons, List.not_mem_nil, or_false] at hm
  rcases hm with rfl | rfl
  · have := h1 ι0 ι a w hF hS hag hok
    rw [e1] at this
    exact this
  · have := h2 ι0 ι a w hF hS hag hok
    rw [e2] at this
    exact this
theorem JS.op {i : Nat} {o : Oper} (ho : l[i]? = some o) (hg : o.guard = none) (hp : planOk l b (listed.setIfInBounds i true) p = true) (h : Go1 X.P X.N D F L K o (fun F' L' K' => Kept b F0 K0 (listed.setIfInBounds i true) F' K' ∧ JD X l b F0 K0 D p (listed.setIfInBounds i true) s F' L' K')) : JS X l b F0 K0 D p listed s i F L K := by
  intro ι0 ι a w hF hS hag hok
  obtain ⟨ι1, w1, v, F1, L1, K1, hrun, h1, h2, h3, h4, h5⟩ := h ι a w hF hS
  have hag1 : ∀ u ∈ D, ι1 u = ι0 u := fun u hu => (h3 u hu).trans (hag u hu)
  have ho' : l.toArray[i]? = some o := by simpa using ho
  unfold wpOp
  simp only [ho', Region.wanted, hg, if_true]
  left
  have hk := And.intro (fun hl => h4.st (D := D) h2 hag1 hok.tgk hl) (h5 hp hok ι0 ι1 _ w1 h1 h2 hag1 (fun hl => h4.st h2 hag1 hok.tgk hl))
  simp only [Oper.wp]
  rcases hrun with hr | ⟨hr, rfl⟩
  · rw [hr]; exact hk
  · rw [hr]; exact hk
theorem JS.callC_ {i : Nat} {o : Oper} {f d : Nat} {args : Array Operand} {ts : Array TypeId} {vs : List Value} {Q : Value → List (Nat × Row) → Prop} (ho : l[i]? = some o) (hw : ∀ ι a, Fr X.N ι L a → Region.wanted o (yielded l.toArray a.tmps) = true) (hp : planOk l b (listed.setIfInBounds i true) p = true) (hop : o.op = .call ⟨.value (.func f), args, ts⟩) (hd : o.dst = some d) (hN : d < X.N)
    (hargs : mapE (evO L) args.toList = some vs) (hfn : fnOk X.P f = true) (hkp : Kept b F0 K0 (listed.setIfInBounds i true) F K) (h : ∀ ι, Val ι K F → F.le (push ι K F) → C X.P f (vs.map (rV ι)) (push ι K F) Q)
    (hk : ∀ v Y, Q v Y → (∀ κ, rV κ v = v) → (∀ x ∈ Y, ∀ u ∈ x.2.cs, plain1 u = true) → New F Y → JD X l b F0 K0 D p (listed.setIfInBounds i true) s (F.add Y) ((d, v) :: L) K) : JS X l b F0 K0 D p listed s i F L K := by
  intro ι0 ι a w hF hS hag hok
  have ho' : l.toArray[i]? = some o := by simpa using ho
  unfold wpOp
  simp only [ho', hw ι a hF, if_true]
  left
  simp only [Oper.wp, callee_run (e := evO L) (fun x u hu => hF.ev hu) hop rfl rfl hargs hfn w, Oper.upon]
  have hc := h ι hS.val hS.val.le ι w (hS.push ι)
  rw [map_cV_rV] at hc
  simp only [List.nil_append, List.append_nil]
  refine hc.mono fun e w' ⟨v, Y, h1, h2, h5, h3, h4⟩ => ?_
  subst h1
  have hS' := hS.pull h3
  have hkp' : Kept b F0 K0 (listed.setIfInBounds i true) (F.add Y) K := by
    rcases hkp with hkp | ⟨hkp, Z, rfl⟩
    · exact .inl hkp
    · exact .inr ⟨hkp, Y ++ Z, by simp [Mem.add]⟩
  have hst : (listed.setIfInBounds i true).getD b false = false → St F0 ι0 K0 w' := fun hl => hkp'.st hS' hag hok.tgk hl
  rw [hd]
  have := hF.put hN v
  exact ⟨hst, hk v Y h4 h2 h5 (hS'.new_ h5) hp hok ι0 ι _ w' this hS' hag hst⟩
/-- a call that leaves rows, as one of two -/
theorem jclC {i f d : Nat} {o : Oper} {args : Array Operand} {ts : Array TypeId} {vs : List Value} {Q : Value → List (Nat × Row) → Prop}
    (hk : ∀ v Y, Q v Y → (∀ κ, rV κ v = v) → (∀ x ∈ Y, ∀ u ∈ x.2.cs, plain1 u = true) → New F Y → JD X l b F0 K0 D p (listed.setIfInBounds i true) s (F.add Y) ((d, v) :: L) K)
    (hkp : Kept b F0 K0 (listed.setIfInBounds i true) F K := by first | exact Kept.same | exact Kept.all) (hp : planOk l b (listed.setIfInBounds i true) p = true := by kernel_rfl) (ho : l[i]? = some o := by rfl) (hg : o.guard = none := by rfl) (hop : o.op = .call ⟨.value (.func f), args, ts⟩ := by rfl) (hd : o.dst = some d := by rfl) (hN : d < X.N := by exact Nat.le_of_ble_eq_true rfl) (hargs : mapE (evO L) args.toList = some vs := by rfl) (hfn : fnOk X.P f = true := by kernel_rfl) (h : ∀ ι, Val ι K F → F.le (push ι K F) → C X.P f (vs.map (rV ι)) (push ι K F) Q) : JS X l b F0 K0 D p listed s i F L K :=
  JS.callC_ ho (fun ι a _ => by simp [Region.wanted, hg]) hp hop hd hN hargs hfn hkp h hk
theorem jcl {i f d : Nat} {o : Oper} {args : Array Operand} {ts : Array TypeId} {vs : List Value} {v : Value} (hk : JD X l b F0 K0 D p (listed.setIfInBounds i true) s F ((d, v) :: L) K)
    (hkp : Kept b F0 K0 (listed.setIfInBounds i true) F K := by first | exact Kept.same | exact Kept.all) (hp : planOk l b (listed.setIfInBounds i true) p = true := by kernel_rfl) (ho : l[i]? = some o := by rfl) (hg : o.guard = none := by rfl) (hop : o.op = .call ⟨.value (.func f), args, ts⟩ := by rfl) (hd : o.dst = some d := by rfl) (hN : d < X.N := by exact Nat.le_of_ble_eq_true rfl) (hargs : mapE (evO L) args.toList = some vs := by rfl) (hfn : fnOk X.P f = true := by kernel_rfl) (h : ∀ ι, Val ι K F → F.le (push ι K F) → C0 X.P f (vs.map (rV ι)) (push ι K F) v) : JS X l b F0 K0 D p listed s i F L K :=
  JS.callC_ ho (fun ι a _ => by simp [Region.wanted, hg]) hp hop hd hN hargs hfn hkp h (by rintro _ _ ⟨rfl, rfl⟩ _ _ _; exact hk)
theorem jal {Θ : Tab} {i : Nat} {o : Oper} {e : TypeId} {d : Nat} {ti : Ty} (hk : JD X l b F0 K0 D p (listed.setIfInBounds i true) s F ((d, .pointer (some ⟨d, 0, some 0⟩)) :: L) ((d, { elem := e, cs := ti.zero, room := ti.zero.length, flat := false }) :: K))
    (hp : planOk l b (listed.setIfInBounds i true) p = true := by kernel_rfl)
    (ho' : l[i]? = some o := by rfl) (hg : o.guard = none := by rfl) (ho : o.op = .alloc e := by rfl) (hd : o.dst = some d := by rfl) (hN : d < X.N := by exact Nat.le_of_ble_eq_true rfl) (hθ : tabOk X.P Θ = true := by exact hT) (hi : Θ.lookup e = some ti := by rfl) (h1 : ti.zero.all (·.oneCell') = true := by rfl)
    (hL : ntL d L = true := by rfl) (hK : ntK d K = true := by rfl) (hD : D.contains d = false := by rfl)
    (hkp : Kept b F0 K0 (listed.setIfInBounds i true) F ((d, { elem := e, cs := ti.zero, room := ti.zero.length, flat := false }) :: K) := by first | exact Kept.all | exact Kept.k0 | exact Kept.kY) : JS X l b F0 K0 D p listed s i F L K :=
  JS.op ho' hg hp (Go1.alloc hθ ho hd hN hi h1 hL hK hD ⟨hkp, hk⟩)
theorem jbx {i : Nat} {o : Oper} {e : TypeId} {x : Operand} {d : Nat} {v : Value} (hk : JD X l b F0 K0 D p (listed.setIfInBounds i true) s F ((d, .pointer (some ⟨d, 0, some 0⟩)) :: L) ((d, { elem := e, cs := cellsL v, room := (cellsL v).length, flat := false }) :: K))
    (hp : planOk l b (listed.setIfInBounds i true) p = true := by kernel_rfl)
    (ho' : l[i]? = some o := by rfl) (hg : o.guard = none := by rfl) (ho : o.op = .box e x := by rfl) (hd : o.dst = some d := by rfl) (hN : d < X.N := by exact Nat.le_of_ble_eq_true rfl) (hx : evO L x = some v := by rfl) (hv : okV v = true := by rfl)
    (hL : ntL d L = true := by rfl) (hK : ntK d K = true := by rfl) (hD : D.contains d = false := by rfl)
    (hkp : Kept b F0 K0 (listed.setIfInBounds i true) F ((d, { elem := e, cs := cellsL v, room := (cellsL v).length, flat := false }) :: K) := by first | exact Kept.all | exact Kept.k0 | exact Kept.kY) : JS X l b F0 K0 D p listed s i F L K :=
  JS.op ho' hg hp (Go1.box ho hd hN hx hv hL hK hD ⟨hkp, hk⟩)
theorem jmk {Θ : Tab} {i : Nat} {o : Oper} {ty el : TypeId} {x c : Operand} {d : Nat} {ti tj : Ty} {kl kc : IntKind} {qn qm : Int} (hk : JD X l b F0 K0 D p (listed.setIfInBounds i true) s F ((d, .slice (some ⟨d, 0, some 0⟩) qn.toNat qm.toNat) :: L) ((d, { elem := el, cs := zer tj qn.toNat, room := qm.toNat * tj.size, flat := true }) :: K))
    (hp : planOk l b (listed.setIfInBounds i true) p = true := by kernel_rfl)
    (ho' : l[i]? = some o := by rfl) (hg : o.guard = none := by rfl) (ho : o.op = .makeSlice ty x c := by rfl) (hd : o.dst = some d := by rfl) (hN : d < X.N := by exact Nat.le_of_ble_eq_true rfl) (hθ : tabOk X.P Θ = true := by exact hT) (hi : Θ.lookup ty = some ti := by rfl) (hki : ti.k = .slice el := by rfl) (hj : Θ.lookup el = some tj := by rfl)
    (hl : evO L x = some (.int kl qn) := by rfl) (hc : evO L c = some (.int kc qm) := by rfl) (h0 : 0 ≤ qn := by omega) (hnm : qn ≤ qm := by omega) (hb : qm.toNat * tj.bytes ≤ 281474976710656 := by (first | omega | (simp; omega))) (hm2 : qm ≤ 9223372036854775807 := by omega) (hz0 : tj.zero.length = tj.size := by rfl) (hz1 : 0 < tj.size := by exact Nat.le_of_ble_eq_true rfl)
    (hL : ntL d L = true := by rfl) (hK : ntK d K = true := by rfl) (hD : D.contains d = false := by rfl)
    (hkp : Kept b F0 K0 (listed.setIfInBounds i true) F ((d, { elem := el, cs := zer tj qn.toNat, room := qm.toNat * tj.size, flat := true }) :: K) := by first | exact Kept.all | exact Kept.k0 | exact Kept.kY) : JS X l b F0 K0 D p listed s i F L K :=
  JS.op ho' hg hp (Go1.make hθ ho hd hN hi hki hj hl hc (Int.toNat_of_nonneg h0).symm (Int.toNat_of_nonneg (by omega)).symm (by omega) hb (by omega) hz0 hz1 hL hK hD ⟨hkp, hk⟩)
end
section
variable {F : Mem} {K K0 : Own} {b : Nat} {listed : Array Bool}
theorem Kept.kYY {Y Z : List (Nat × Row)} (h : KSub K0 K := by repeat' first | exact trivial | refine And.intro rfl ?_) : Kept b F K0 listed ((F.add Y).add Z) K := .inr ⟨h, Z ++ Y, add_add _ _ _⟩
theorem Kept.kY3 {Y Z U : List (Nat × Row)} (h : KSub K0 K := by repeat' first | exact trivial | refine And.intro rfl ?_) : Kept b F K0 listed (((F.add Y).add Z).add U) K := .inr ⟨h, U ++ Z ++ Y, by rw [add_add, add_add]⟩
end
end Go.Proofs.Ytbeblgjibfoanaa.Am
namespace Go.Proofs.Ytbeblgjibfoanaa.Am
set_option linter.unusedSimpArgs false
set_option linter.unusedVariables false
set_option maxRecDepth 100000
set_option maxHeartbeats 4000000
open Go Go.RowKit
theorem foD_none {l : List Item} : ∀ d i n, i ≤ n → n < foD l d i → forceB (at_ l n) = false
  | 0, i, n, h, h2 => by simp [foD] at h2; omega
  | d + 1, i, n, h, h2 => by
    simp only [foD] at h2
    split at h2
    · omega
    · rename_i hf
      by_cases hn : n = i
      · subst hn; simpa using hf
      · exact foD_none d (i + 1) n (by omega) h2
theorem foA_none {l : List Item} {i n : Nat} (h : i ≤ n) (h2 : n < foA l i) : forceB (at_ l n) = false := foD_none _ _ _ h h2
theorem scanF_leg (l : List Item) (w : Int) (a1 : Nat) : ∀ m, (0 ≤ (scanF l w a1 m).1 → legalB l (scanF l w a1 m).1 = true) ∧ (0 ≤ (scanF l w a1 m).2 → legalB l (scanF l w a1 m).2 = true)
  | 0 => by simp [scanF]
  | m + 1 => by
    have ih := scanF_leg l w a1 m
    simp only [scanF]
    split
    · rename_i hl
      dsimp only
      constructor
      · split
        · exact fun _ => hl
        · exact ih.1
      · split
        · exact fun _ => hl
        · exact ih.2
    · exact ih
theorem nextF_legal {l : List Item} (h : goodL l = true) (w : Int) {a1 : Nat} (ha : a1 < l.length) : legalB l (nextF l w a1) = true ∧ nextF l w a1 ≤ foA l a1 := by
  have h0 := nextF_bd h w ha
  have h1 := scanF_leg l w a1 (foA l a1 + 1 - a1)
  have h2 := scanF_bd l w a1 (foA l a1 + 1 - a1)
  have h3 := foA_last h ha
  unfold nextF at h0 ⊢
  split
  · rename_i hn
    rw [if_pos hn] at h0
    exact ⟨h1.1 (by omega), by omega⟩
  · rename_i hn
    exact ⟨h1.2 (by omega), by omega⟩
/-- a way of breaks behind a: what BreaksWhole asks of it -/
def wholeB (l : List Item) (x : Par) (f : Bool) : Int → List Int → Prop
  | a, [] => a = (l.length : Int) - 1
  | a, k :: ks => (a < k ∧ k < l.length ∧ legalB l k = true) ∧ (∀ n : Nat, a < n → (n : Int) < k → forceB (at_ l n) = false) ∧ (f = true → fitsD l a k x = true) ∧ wholeB l x f k ks
theorem whole_first {l : List Item} (hg : goodL l = true) (x : Par) (w : Int) : ∀ d a1, l.length ≤ a1 + d → a1 ≤ l.length → wholeB l x false ((a1 : Int) - 1) (pathF l w d a1)
  | 0, a1, h, h2 => by
    simp only [pathF, wholeB]; omega
  | d + 1, a1, h, h2 => by
    simp only [pathF]
    split
    · rename_i ha
      have h3 := nextF_bd hg w ha
      obtain ⟨h4, h5⟩ := nextF_legal hg w ha
      obtain ⟨b, hb⟩ := Int.eq_ofNat_of_zero_le (show 0 ≤ nextF l w a1 by omega)
      rw [hb] at h3 h4 h5 ⊢
      refine ⟨⟨by omega, by omega, h4⟩, fun n hn hn2 => foA_none (i := a1) (by omega) (by omega), (fun h => by cases h), ?_⟩
      have := whole_first hg x w d (b + 1) (by omega) (by omega)
      rw [show ((b : Int) + 1).toNat = b + 1 from by omega]
      rw [show (((b + 1 : Nat) : Int) - 1) = b from by omega] at this
      exact this
    · simp only [wholeB]; omega
theorem judD_fo {l : List Item} {x : Par} {a1 b : Nat} (h : (judD l x a1 b).fits = true) : b ≤ foA l a1 := by
  unfold judD at h
  split at h <;> simp only [Bool.and_eq_true, decide_eq_true_eq] at h <;> omega
theorem whole_best {l : List Item} (hg : goodL l = true) {x : Par} (hx : x.good = true) : ∀ d a1 (c : Int), l.length ≤ a1 + d → a1 ≤ l.length → (a1 = 0 ∨ legalB l ((a1 : Int) - 1) = true) → (a1 < l.length → (tabD l x l.length a1 c.toNat).1 ≠ 0) → wholeB l x true ((a1 : Int) - 1) (pathB l x (tabD l x l.length) d a1 c)
  | 0, a1, c, h, h2, _, _ => by
    simp only [pathB, wholeB]; omega
  | d + 1, a1, c, h, h2, hl, hn => by
    simp only [pathB]
    split
    · rename_i ha
      obtain ⟨b, h3, h4, h5, h6, h7, h8⟩ := tab_next hg ha (hn ha)
      rw [h5]
      have hfo := judD_fo h7
      refine ⟨⟨by omega, by omega, h6⟩, fun n hn hn2 => foA_none (i := a1) (by omega) (by omega), fun _ => ?_, ?_⟩
      · have hline : lineB l ((a1 : Int) - 1) b = true := by
          rw [lineB_iff]
          refine ⟨by rw [hg, h6]; rfl, by omega, ?_⟩
          rcases hl with hl | hl
          · exact .inl (by omega)
          · exact .inr (by rw [hg, hl]; rfl)
        simp only [fitsD, hx, hline, Bool.true_and]
        rw [show ((a1 : Int) - 1 + 1).toNat = a1 from by omega, show ((b : Nat) : Int).toNat = b from by omega]
        exact h7
      · have := whole_best hg hx d (b + 1) (judD l x a1 b).cls (by omega) (by omega) (.inr (by rw [show (((b + 1 : Nat) : Int) - 1) = b from by omega]; exact h6)) (fun hb => h8 hb)
        rw [show (((b : Nat) : Int) + 1).toNat = b + 1 from by omega, show ((b : Nat) : Int).toNat = b from by omega]
        rw [show (((b + 1 : Nat) : Int) - 1) = b from by omega] at this
        exact this
    · simp only [wholeB]; omega
theorem whole_fst {l : List Item} (hg : goodL l = true) {x : Par} (hx : x.good = true) : wholeB l x false (-1) (firstD l x) := by
  have := whole_first hg x x.w l.length 0 (by omega) (by omega)
  rw [firstD, if_pos ⟨hg, hx⟩]
  exact this
theorem whole_bst {l : List Item} (hg : goodL l = true) {x : Par} (hx : x.good = true) (h : (bestD l x).2.2 = true) : wholeB l x true (-1) (bestD l x).1 := by
  unfold bestD at h ⊢
  split
  · rename_i hc
    exact whole_best hg hx l.length 0 1 (by omega) (by omega) (.inl rfl) (fun _ => hc.2.2)
  · rename_i hc
    rw [if_neg hc] at h
    cases h

end Go.Proofs.Ytbeblgjibfoanaa.Am
namespace Go.Proofs.Ytbeblgjibfoanaa.Am
set_option linter.unusedSimpArgs false
set_option linter.unusedVariables false
set_option maxRecDepth 100000
set_option maxHeartbeats 4000000
open Go Go.RowKit
theorem SlG.r {g : Value} (h : SlG g) (ι : Nat → Nat) : r1 ι g = g := by
  rcases h with (⟨b, o, n, c, rfl⟩ | ⟨n, c, rfl⟩) | ⟨b, o, s, n, c, rfl⟩ <;> rfl
theorem SlG.r' {g : Value} (h : SlG g) (ι : Nat → Nat) : SlG (r1 ι g) := by rw [h.r]; exact h
theorem R24First_C (F : Mem) (v : Value) (l : List Item) (x : Par) (hv : RItems F v l) : C Try.prog 19 [v, x.v] F (fun u Y => ∀ G, Rd G Y → RInts G u (firstD l x)) := by
  have hno : ¬ (goodL l = true ∧ x.good = true) → firstD l x = [] := fun h => by simp only [firstD, h, if_false]
  have hye : (goodL l = true ∧ x.good = true) → firstD l x = pathF l x.w l.length 0 := fun h => by simp only [firstD, h, and_self, if_true]
  obtain ⟨xw, tol, line, twice, odd⟩ := x
  dsimp only [Par.v]
  rcases hv.cases with ⟨vb, vo, vc, rfl, _, hr⟩ | ⟨rfl, rfl⟩
  ·
    refine C.go hT Try.func19 Try.ntmps19 ?_
    refine sq ?_
    refine rg ?_
    refine bx ?_
    refine st (h := O) ?_
    refine nl ?_
    iterate 2 (refine sq ?_)
    refine rg ?_
    refine st (h := O) ?_
    refine cl (h := by exact fun ι hV hl => RGood_C _ _ l (hv.le hl)) ?_
    iterate 2 (refine st (h := O) ?_)
    refine gB (fun g16 => ?_) (fun g16 => ?_)
    · refine sp ?_
      iterate 2 (refine sp ?_)
      refine st (h := O) ?_
      refine nl ?_
      refine cT ?_
      refine sq ?_
      refine rg ?_
      refine st (h := O) ?_
      refine nl ?_
      refine rt (fun G hG => ?_)
      rw [hno (fun h => not_of g16 h.1)]
      exact .inr ⟨rfl, rfl⟩
    · refine sg (h := sdLN) ?_
      refine clg (h := by exact fun ι hV hl => r23Good_C _ ⟨xw, tol, line, twice, odd⟩) ?_
      refine sg (h := O) ?_
      refine st (h := O) ?_
      refine nl ?_
      refine cB (fun c0 => ?_) (fun c0 => ?_)
      · refine sq ?_
        refine rg ?_
        refine st (h := O) ?_
        refine nl ?_
        refine rt (fun G hG => ?_)
        rw [hno (fun h => not_of c0 h.2)]
        exact .inr ⟨rfl, rfl⟩
      · have hgl := of_not g16
        have hgx := of_not c0
        have hlen := good_len hgl
        rw [hye ⟨hgl, hgx⟩]
        have hgx2 := hgx
        simp only [Par.good, decide_eq_true_eq] at hgx2
        refine sk ?_
        refine sq ?_
        refine rg ?_
        refine st (h := O) ?_
        refine nl ?_
        refine sq ?_
        refine rg ?_
        refine st (h := O) ?_
        refine nl ?_
        refine sq ?_
        refine bl ?_
        refine J.loop4 (α := Option Nat) (β := Nat) (γ := List Value) (δ := Int) (fun o m cs a => -1 ≤ a ∧ a < l.length ∧ apB o m ∧ (m : Int) ≤ a + 1 ∧ cs.length = m ∧ ∃ xs d, cs = ivs xs ∧ l.length ≤ (a + 1).toNat + d ∧ pathF l xw l.length 0 = xs ++ pathF l xw d (a + 1).toNat) (fun o m cs a => [(5, apV 67 o m), (6, .int .i64 a)]) [(0, _), (3, _)] (fun o m cs a => apR 67 3 1 true o cs ++ []) [(3, _)] (fun o m cs a => l.length - (a + 1).toNat) (none) (0) ([]) (-1) (by exact ⟨rfl, rfl, trivial⟩) (by exact ⟨rfl, rfl, trivial⟩) (by exact (by repeat' first | exact trivial | refine And.intro rfl ?_)) ?_ ?_
        · exact ⟨by omega, by omega, rfl, by omega, rfl, [], l.length, rfl, by omega, rfl⟩
        · intro o m cs a L1 K1 e1 e2 hI
          rcases o with _ | cap_o
          all_goals
            dsimp only [apV, apR, List.cons_append, List.nil_append] at e1 e2
            subst e1 e2
            obtain ⟨ha, hal, hap, hm, hcl, xs, d, rfl, hd, hpath⟩ := hI
            simp only [apB] at hap
            try (obtain rfl : m = 0 := hap; obtain rfl : xs = [] := List.eq_nil_of_length_eq_zero (by simpa [ivs] using hcl))
            iterate 2 (refine sq ?_)
            refine rg ?_
            iterate 3 (refine st (h := O) ?_)
            refine st (h := sdS) ?_
            refine st (h := O) ?_
            refine nl ?_
            refine cN (fun c1 => ?_) (fun c1 => ?_)
            · obtain ⟨a1, ha1⟩ := Int.eq_ofNat_of_zero_le (show (0 : Int) ≤ a + 1 by omega)
              have ha1l : a1 < l.length := by omega
              obtain ⟨fl1, fl2, fl3⟩ := foA_last hgl ha1l
              have hnb := nextF_bd hgl xw ha1l
              refine sk ?_
              refine bl ?_
              refine sq ?_
              refine rg ?_
              iterate 2 (refine st (h := O) ?_)
              refine nl ?_
              iterate 2 (refine sq ?_)
              refine rg ?_
              refine st (h := O) ?_
              refine st (h := sdA) ?_
              refine st (h := O) ?_
              refine nl ?_
              refine bl ?_
              first | refine J.loop3 (α := Int) (β := Int) (γ := Int) (fun b least most => (a1 : Int) ≤ b ∧ b ≤ foA l a1 ∧ scanF l xw a1 (b - a1).toNat = (least, most)) (fun b least most => [(8, .int .i64 least), (7, .int .i64 most), (9, .int .i64 b)]) [(0, _), (3, _), (5, _), (6, _)] (fun b least most => []) [(3, _), (67, _)] (fun b least most => (foA l a1 + 1 - b).toNat) (a + 1) (-1) (-1) (by exact ⟨rfl, rfl, rfl, trivial⟩) (by exact ⟨rfl, rfl, rfl, rfl, trivial⟩) (by exact ⟨rfl, rfl, rfl, rfl, trivial⟩) ?_ ?_ | refine J.loop3 (α := Int) (β := Int) (γ := Int) (fun b least most => (a1 : Int) ≤ b ∧ b ≤ foA l a1 ∧ scanF l xw a1 (b - a1).toNat = (least, most)) (fun b least most => [(8, .int .i64 least), (7, .int .i64 most), (9, .int .i64 b)]) [(0, _), (3, _), (5, _), (6, _)] (fun b least most => []) [(3, _)] (fun b least most => (foA l a1 + 1 - b).toNat) (a + 1) (-1) (-1) (by exact ⟨rfl, rfl, rfl, trivial⟩) (by exact ⟨rfl, rfl, rfl, rfl, trivial⟩) (by exact ⟨rfl, rfl, trivial⟩) ?_ ?_
              · exact ⟨by omega, by omega, by rw [show (a + 1 - (a1 : Int)).toNat = 0 from by omega]; rfl⟩
              · intro b least most L1 K1 e1 e2 hI
                dsimp only [apV, apR, List.cons_append, List.nil_append] at e1 e2
                subst e1 e2
                obtain ⟨hb0, hb1, hsc⟩ := hI
                iterate 2 (refine sq ?_)
                refine rg ?_
                iterate 4 (refine st (h := O) ?_)
                refine nl ?_
                refine cD (fun c2 => ?_) (fun c2 => ?_)
                · obtain ⟨b1, rfl⟩ := Int.eq_ofNat_of_zero_le (show (0 : Int) ≤ b by omega)
                  obtain ⟨k, rfl⟩ : ∃ k, b1 = a1 + k := ⟨b1 - a1, by omega⟩
                  rw [show ((a1 + k : Nat) : Int) - a1 = k from by omega, Int.toNat_natCast] at hsc
                  have hst : scanF l xw a1 (k + 1) = if legalB l ((a1 + k : Nat) : Int) = true then (if least < 0 then ((a1 + k : Nat) : Int) else least, if mW l a1 (a1 + k) - mZ l a1 (a1 + k) ≤ xw then ((a1 + k : Nat) : Int) else most) else (least, most) := by simp only [scanF, hsc]
                  have hmb := sums_bd hgl (a1 + k) (by omega)
                  obtain ⟨r0, r1, r2, r3, r4, r5, g, hg2, hri⟩ := hr (a1 + k) (by omega)
                  have hN2 : ∀ K, rdN F K ⟨vb, vo + ((a1 + k : Nat) : Int).toNat * 11, none⟩ 11 = some ((at_ l (a1 + k)).cells g) := fun K => hg2
                  have hsv := hri.sl
                  clear hg2
                  have hfle := fun h : forceB (at_ l (a1 + k)) = true => foA_le (i := a1) (by omega) (by omega) h
                  rcases hri with (⟨gb, go, gc, rfl, _, _⟩ | ⟨rfl, _⟩) | ⟨gb, go, gsp, rfl, _⟩
                  all_goals
                    refine sk ?_
                    refine sq ?_
                    refine bl ?_
                    iterate 2 (refine sq ?_)
                    refine rg ?_
                    iterate 2 (refine st (h := O) ?_)
                    refine cl (h := by exact fun ι hV hl => RLegal_C _ _ l _ (hv.le hl)) ?_
                    refine st (h := O) ?_
                    refine nl ?_
                    refine cB (fun c3 => ?_) (fun c3 => ?_)
                    · refine ex ?_
                      refine rg ?_
                      refine st (h := O) ?_
                      refine st (h := sdA) ?_
                      refine st (h := O) ?_
                      refine nl ?_
                      refine bk3 (_) (_) (_) (by exact ⟨rfl, rfl, rfl, trivial⟩) (by exact ⟨rfl, rfl, rfl, rfl, trivial⟩) (by exact (by repeat' first | exact trivial | refine And.intro rfl ?_)) ?_ ?_
                      · omega
                      · have hnf : a1 + k ≠ foA l a1 := fun h => by
                          have h2 := legal_force fl2 fl3
                          rw [← h] at h2
                          exact not_of c3 h2
                        refine ⟨by omega, by omega, ?_⟩
                        rw [show (((a1 + k : Nat) : Int) + 1 - a1).toNat = k + 1 from by omega, hst]
                        rw [if_neg (not_of c3)]
                    · refine sk ?_
                      iterate 2 (refine sq ?_)
                      refine rg ?_
                      iterate 2 (refine st (h := O) ?_)
                      refine nl ?_
                      refine cD (fun c4 => ?_) (fun c4 => ?_)
                      · refine rg ?_
                        iterate 2 (refine st (h := O) ?_)
                        refine nl ?_
                        refine sq ?_
                        refine rg ?_
                        iterate 3 (refine st (h := O) ?_)
                        refine cl (h := by exact fun ι hV hl => rmeasure_C _ _ l a a1 (a1 + k) (hv.le hl) hgl ha1 (by omega) (by omega)) ?_
                        have hfr : fromA l a1 (a1 + k) ≤ a1 + k := Nat.min_le_right _ _
                        have hmf := sums_bd hgl (fromA l a1 (a1 + k)) (by omega)
                        have hok := good_ok hgl (show a1 + k < l.length by omega)
                        simp only [Item.ok, decide_eq_true_eq] at hok
                        have hwb : -(1073741824 * 2000) ≤ mW l a1 (a1 + k) ∧ mW l a1 (a1 + k) ≤ 1073741824 * 2000 := by unfold mW; split <;> omega
                        have hzb : -(1073741824 * 2000) ≤ mZ l a1 (a1 + k) ∧ mZ l a1 (a1 + k) ≤ 1073741824 * 2000 := by unfold mZ; omega
                        iterate 7 (refine st (h := O) ?_)
                        refine nl ?_
                        iterate 2 (refine sq ?_)
                        refine rg ?_
                        iterate 2 (refine st (h := O) ?_)
                        refine st (h := sdS) ?_
                        refine st (h := sdFA) ?_
                        refine st (h := sdL) ?_
                        refine st (h := O) ?_
                        refine nl ?_
                        refine cD (fun c5 => ?_) (fun c5 => ?_)
                        · refine rg ?_
                          iterate 2 (refine st (h := O) ?_)
                          refine nl ?_
                          refine sq ?_
                          refine rg ?_
                          iterate 2 (refine st (h := O) ?_)
                          refine st (h := (sdX (z := 11))) ?_
                          refine st (h := sdLN (hv := hN2 _)) ?_
                          refine cl (h := by exact fun ι hV hl => rforced_C _ (at_ l (a1 + k)) _ (hsv.r' _)) ?_
                          refine nl ?_
                          refine cB (fun c6 => ?_) (fun c6 => ?_)
                          · have hfe : a1 + k = foA l a1 := by have := hfle c6; omega
                            have hsf : scanF l xw a1 (foA l a1 + 1 - a1) = (if least < 0 then ((a1 + k : Nat) : Int) else least, if mW l a1 (a1 + k) - mZ l a1 (a1 + k) ≤ xw then ((a1 + k : Nat) : Int) else most) := by
                              rw [show foA l a1 + 1 - a1 = k + 1 from by omega, hst, if_pos (of_not c3)]
                            have hnx : nextF l xw a1 = if (scanF l xw a1 (foA l a1 + 1 - a1)).2 < 0 then (scanF l xw a1 (foA l a1 + 1 - a1)).1 else (scanF l xw a1 (foA l a1 + 1 - a1)).2 := rfl
                            rw [hsf] at hnx
                            dsimp only at hnx
                            refine ex ?_
                            iterate 2 (refine sq ?_)
                            refine rg ?_
                            iterate 2 (refine st (h := O) ?_)
                            refine nl ?_
                            refine cD (fun c7 => ?_) (fun c7 => ?_)
                            · refine rg ?_
                              iterate 2 (refine st (h := O) ?_)
                              refine nl ?_
                              refine sq ?_
                              refine rg ?_
                              iterate 2 (refine st (h := O) ?_)
                              refine sl ?_
                              first | refine apN (news := [_]) 67 true [(0, _), (3, _), (7, _)] [(3, _)] ?_ | refine apO (news := [_]) 1067 67 [(0, _), (3, _), (7, _)] [(3, _)] ?_
                              intro cap67 hc67 hd67
                              refine st (h := O) ?_
                              refine nl ?_
                              refine rg ?_
                              iterate 2 (refine st (h := O) ?_)
                              refine nl ?_
                              refine bk ?_
                              refine bk4 (some _) (_) (_) (_) (by exact ⟨rfl, rfl, trivial⟩) (by exact ⟨rfl, rfl, trivial⟩) (by exact (by repeat' first | exact trivial | refine And.intro rfl ?_)) ?_ ?_
                              · first | omega | (exfalso; omega)
                              · have hnn : nextF l xw a1 = _ := hnx
                                simp only [c4, c5, c7, if_true, if_false] at hnn
                                obtain ⟨d, rfl⟩ : ∃ e, d = e + 1 := ⟨d - 1, by omega⟩
                                rw [ha1, Int.toNat_natCast, pathF, if_pos ha1l, hnn] at hpath
                                rw [hnn] at hnb
                                simp only [apB, List.length_append, List.length_cons, List.length_nil]
                                refine ⟨by omega, by omega, by omega, by omega, by first | trivial | omega, _ ++ [_], d, by first | exact ivs_snoc _ _ | exact ivs_snoc [] _, by omega, ?_⟩
                                rw [hpath, List.append_assoc]; rfl
                            · refine sk ?_
                              refine sq ?_
                              refine rg ?_
                              iterate 2 (refine st (h := O) ?_)
                              refine sl ?_
                              first | refine apN (news := [_]) 67 true [(0, _), (3, _), (7, _)] [(3, _)] ?_ | refine apO (news := [_]) 1067 67 [(0, _), (3, _), (7, _)] [(3, _)] ?_
                              intro cap67 hc67 hd67
                              refine st (h := O) ?_
                              refine nl ?_
                              refine rg ?_
                              iterate 2 (refine st (h := O) ?_)
                              refine nl ?_
                              refine bk ?_
                              refine bk4 (some _) (_) (_) (_) (by exact ⟨rfl, rfl, trivial⟩) (by exact ⟨rfl, rfl, trivial⟩) (by exact (by repeat' first | exact trivial | refine And.intro rfl ?_)) ?_ ?_
                              · first | omega | (exfalso; omega)
                              · have hnn : nextF l xw a1 = _ := hnx
                                simp only [c4, c5, c7, if_true, if_false] at hnn
                                obtain ⟨d, rfl⟩ : ∃ e, d = e + 1 := ⟨d - 1, by omega⟩
                                rw [ha1, Int.toNat_natCast, pathF, if_pos ha1l, hnn] at hpath
                                rw [hnn] at hnb
                                simp only [apB, List.length_append, List.length_cons, List.length_nil]
                                refine ⟨by omega, by omega, by omega, by omega, by first | trivial | omega, _ ++ [_], d, by first | exact ivs_snoc _ _ | exact ivs_snoc [] _, by omega, ?_⟩
                                rw [hpath, List.append_assoc]; rfl
                          · refine sk ?_
                            refine bk ?_
                            refine rg ?_
                            refine st (h := O) ?_
                            refine st (h := sdA) ?_
                            refine st (h := O) ?_
                            refine nl ?_
                            refine bk3 (_) (_) (_) (by exact ⟨rfl, rfl, rfl, trivial⟩) (by exact ⟨rfl, rfl, rfl, rfl, trivial⟩) (by exact (by repeat' first | exact trivial | refine And.intro rfl ?_)) ?_ ?_
                            · omega
                            · have hnf : a1 + k ≠ foA l a1 := fun h => by rw [← h] at fl3; rw [fl3] at c6; cases c6
                              refine ⟨by omega, by omega, ?_⟩
                              rw [show (((a1 + k : Nat) : Int) + 1 - a1).toNat = k + 1 from by omega, hst]
                              rw [if_pos (of_not c3)]; simp only [c4, c5, if_true, if_false]
                        · refine sk ?_
                          refine sq ?_
                          refine rg ?_
                          iterate 2 (refine st (h := O) ?_)
                          refine st (h := (sdX (z := 11))) ?_
                          refine st (h := sdLN (hv := hN2 _)) ?_
                          refine cl (h := by exact fun ι hV hl => rforced_C _ (at_ l (a1 + k)) _ (hsv.r' _)) ?_
                          refine nl ?_
                          refine cB (fun c6 => ?_) (fun c6 => ?_)
                          · have hfe : a1 + k = foA l a1 := by have := hfle c6; omega
                            have hsf : scanF l xw a1 (foA l a1 + 1 - a1) = (if least < 0 then ((a1 + k : Nat) : Int) else least, if mW l a1 (a1 + k) - mZ l a1 (a1 + k) ≤ xw then ((a1 + k : Nat) : Int) else most) := by
                              rw [show foA l a1 + 1 - a1 = k + 1 from by omega, hst, if_pos (of_not c3)]
                            have hnx : nextF l xw a1 = if (scanF l xw a1 (foA l a1 + 1 - a1)).2 < 0 then (scanF l xw a1 (foA l a1 + 1 - a1)).1 else (scanF l xw a1 (foA l a1 + 1 - a1)).2 := rfl
                            rw [hsf] at hnx
                            dsimp only at hnx
                            refine ex ?_
                            iterate 2 (refine sq ?_)
                            refine rg ?_
                            iterate 2 (refine st (h := O) ?_)
                            refine nl ?_
                            refine cD (fun c7 => ?_) (fun c7 => ?_)
                            · refine rg ?_
                              iterate 2 (refine st (h := O) ?_)
                              refine nl ?_
                              refine sq ?_
                              refine rg ?_
                              iterate 2 (refine st (h := O) ?_)
                              refine sl ?_
                              first | refine apN (news := [_]) 67 true [(0, _), (3, _), (7, _)] [(3, _)] ?_ | refine apO (news := [_]) 1067 67 [(0, _), (3, _), (7, _)] [(3, _)] ?_
                              intro cap67 hc67 hd67
                              refine st (h := O) ?_
                              refine nl ?_
                              refine rg ?_
                              iterate 2 (refine st (h := O) ?_)
                              refine nl ?_
                              refine bk ?_
                              refine bk4 (some _) (_) (_) (_) (by exact ⟨rfl, rfl, trivial⟩) (by exact ⟨rfl, rfl, trivial⟩) (by exact (by repeat' first | exact trivial | refine And.intro rfl ?_)) ?_ ?_
                              · first | omega | (exfalso; omega)
                              · have hnn : nextF l xw a1 = _ := hnx
                                simp only [c4, c5, c7, if_true, if_false] at hnn
                                obtain ⟨d, rfl⟩ : ∃ e, d = e + 1 := ⟨d - 1, by omega⟩
                                rw [ha1, Int.toNat_natCast, pathF, if_pos ha1l, hnn] at hpath
                                rw [hnn] at hnb
                                simp only [apB, List.length_append, List.length_cons, List.length_nil]
                                refine ⟨by omega, by omega, by omega, by omega, by first | trivial | omega, _ ++ [_], d, by first | exact ivs_snoc _ _ | exact ivs_snoc [] _, by omega, ?_⟩
                                rw [hpath, List.append_assoc]; rfl
                            · refine sk ?_
                              refine sq ?_
                              refine rg ?_
                              iterate 2 (refine st (h := O) ?_)
                              refine sl ?_
                              first | refine apN (news := [_]) 67 true [(0, _), (3, _), (7, _)] [(3, _)] ?_ | refine apO (news := [_]) 1067 67 [(0, _), (3, _), (7, _)] [(3, _)] ?_
                              intro cap67 hc67 hd67
                              refine st (h := O) ?_
                              refine nl ?_
                              refine rg ?_
                              iterate 2 (refine st (h := O) ?_)
                              refine nl ?_
                              refine bk ?_
                              refine bk4 (some _) (_) (_) (_) (by exact ⟨rfl, rfl, trivial⟩) (by exact ⟨rfl, rfl, trivial⟩) (by exact (by repeat' first | exact trivial | refine And.intro rfl ?_)) ?_ ?_
                              · first | omega | (exfalso; omega)
                              · have hnn : nextF l xw a1 = _ := hnx
                                simp only [c4, c5, c7, if_true, if_false] at hnn
                                obtain ⟨d, rfl⟩ : ∃ e, d = e + 1 := ⟨d - 1, by omega⟩
                                rw [ha1, Int.toNat_natCast, pathF, if_pos ha1l, hnn] at hpath
                                rw [hnn] at hnb
                                simp only [apB, List.length_append, List.length_cons, List.length_nil]
                                refine ⟨by omega, by omega, by omega, by omega, by first | trivial | omega, _ ++ [_], d, by first | exact ivs_snoc _ _ | exact ivs_snoc [] _, by omega, ?_⟩
                                rw [hpath, List.append_assoc]; rfl
                          · refine sk ?_
                            refine bk ?_
                            refine rg ?_
                            refine st (h := O) ?_
                            refine st (h := sdA) ?_
                            refine st (h := O) ?_
                            refine nl ?_
                            refine bk3 (_) (_) (_) (by exact ⟨rfl, rfl, rfl, trivial⟩) (by exact ⟨rfl, rfl, rfl, rfl, trivial⟩) (by exact (by repeat' first | exact trivial | refine And.intro rfl ?_)) ?_ ?_
                            · omega
                            · have hnf : a1 + k ≠ foA l a1 := fun h => by rw [← h] at fl3; rw [fl3] at c6; cases c6
                              refine ⟨by omega, by omega, ?_⟩
                              rw [show (((a1 + k : Nat) : Int) + 1 - a1).toNat = k + 1 from by omega, hst]
                              rw [if_pos (of_not c3)]; simp only [c4, c5, if_true, if_false]
                      · refine sk ?_
                        refine sq ?_
                        refine rg ?_
                        iterate 3 (refine st (h := O) ?_)
                        refine cl (h := by exact fun ι hV hl => rmeasure_C _ _ l a a1 (a1 + k) (hv.le hl) hgl ha1 (by omega) (by omega)) ?_
                        have hfr : fromA l a1 (a1 + k) ≤ a1 + k := Nat.min_le_right _ _
                        have hmf := sums_bd hgl (fromA l a1 (a1 + k)) (by omega)
                        have hok := good_ok hgl (show a1 + k < l.length by omega)
                        simp only [Item.ok, decide_eq_true_eq] at hok
                        have hwb : -(1073741824 * 2000) ≤ mW l a1 (a1 + k) ∧ mW l a1 (a1 + k) ≤ 1073741824 * 2000 := by unfold mW; split <;> omega
                        have hzb : -(1073741824 * 2000) ≤ mZ l a1 (a1 + k) ∧ mZ l a1 (a1 + k) ≤ 1073741824 * 2000 := by unfold mZ; omega
                        iterate 7 (refine st (h := O) ?_)
                        refine nl ?_
                        iterate 2 (refine sq ?_)
                        refine rg ?_
                        iterate 2 (refine st (h := O) ?_)
                        refine st (h := sdS) ?_
                        refine st (h := sdFA) ?_
                        refine st (h := sdL) ?_
                        refine st (h := O) ?_
                        refine nl ?_
                        refine cD (fun c5 => ?_) (fun c5 => ?_)
                        · refine rg ?_
                          iterate 2 (refine st (h := O) ?_)
                          refine nl ?_
                          refine sq ?_
                          refine rg ?_
                          iterate 2 (refine st (h := O) ?_)
                          refine st (h := (sdX (z := 11))) ?_
                          refine st (h := sdLN (hv := hN2 _)) ?_
                          refine cl (h := by exact fun ι hV hl => rforced_C _ (at_ l (a1 + k)) _ (hsv.r' _)) ?_
                          refine nl ?_
                          refine cB (fun c6 => ?_) (fun c6 => ?_)
                          · have hfe : a1 + k = foA l a1 := by have := hfle c6; omega
                            have hsf : scanF l xw a1 (foA l a1 + 1 - a1) = (if least < 0 then ((a1 + k : Nat) : Int) else least, if mW l a1 (a1 + k) - mZ l a1 (a1 + k) ≤ xw then ((a1 + k : Nat) : Int) else most) := by
                              rw [show foA l a1 + 1 - a1 = k + 1 from by omega, hst, if_pos (of_not c3)]
                            have hnx : nextF l xw a1 = if (scanF l xw a1 (foA l a1 + 1 - a1)).2 < 0 then (scanF l xw a1 (foA l a1 + 1 - a1)).1 else (scanF l xw a1 (foA l a1 + 1 - a1)).2 := rfl
                            rw [hsf] at hnx
                            dsimp only at hnx
                            refine ex ?_
                            iterate 2 (refine sq ?_)
                            refine rg ?_
                            iterate 2 (refine st (h := O) ?_)
                            refine nl ?_
                            refine cD (fun c7 => ?_) (fun c7 => ?_)
                            · refine rg ?_
                              iterate 2 (refine st (h := O) ?_)
                              refine nl ?_
                              refine sq ?_
                              refine rg ?_
                              iterate 2 (refine st (h := O) ?_)
                              refine sl ?_
                              first | refine apN (news := [_]) 67 true [(0, _), (3, _), (7, _)] [(3, _)] ?_ | refine apO (news := [_]) 1067 67 [(0, _), (3, _), (7, _)] [(3, _)] ?_
                              intro cap67 hc67 hd67
                              refine st (h := O) ?_
                              refine nl ?_
                              refine rg ?_
                              iterate 2 (refine st (h := O) ?_)
                              refine nl ?_
                              refine bk ?_
                              refine bk4 (some _) (_) (_) (_) (by exact ⟨rfl, rfl, trivial⟩) (by exact ⟨rfl, rfl, trivial⟩) (by exact (by repeat' first | exact trivial | refine And.intro rfl ?_)) ?_ ?_
                              · first | omega | (exfalso; omega)
                              · have hnn : nextF l xw a1 = _ := hnx
                                simp only [c4, c5, c7, if_true, if_false] at hnn
                                obtain ⟨d, rfl⟩ : ∃ e, d = e + 1 := ⟨d - 1, by omega⟩
                                rw [ha1, Int.toNat_natCast, pathF, if_pos ha1l, hnn] at hpath
                                rw [hnn] at hnb
                                simp only [apB, List.length_append, List.length_cons, List.length_nil]
                                refine ⟨by omega, by omega, by omega, by omega, by first | trivial | omega, _ ++ [_], d, by first | exact ivs_snoc _ _ | exact ivs_snoc [] _, by omega, ?_⟩
                                rw [hpath, List.append_assoc]; rfl
                            · refine sk ?_
                              refine sq ?_
                              refine rg ?_
                              iterate 2 (refine st (h := O) ?_)
                              refine sl ?_
                              first | refine apN (news := [_]) 67 true [(0, _), (3, _), (7, _)] [(3, _)] ?_ | refine apO (news := [_]) 1067 67 [(0, _), (3, _), (7, _)] [(3, _)] ?_
                              intro cap67 hc67 hd67
                              refine st (h := O) ?_
                              refine nl ?_
                              refine rg ?_
                              iterate 2 (refine st (h := O) ?_)
                              refine nl ?_
                              refine bk ?_
                              refine bk4 (some _) (_) (_) (_) (by exact ⟨rfl, rfl, trivial⟩) (by exact ⟨rfl, rfl, trivial⟩) (by exact (by repeat' first | exact trivial | refine And.intro rfl ?_)) ?_ ?_
                              · first | omega | (exfalso; omega)
                              · have hnn : nextF l xw a1 = _ := hnx
                                simp only [c4, c5, c7, if_true, if_false] at hnn
                                obtain ⟨d, rfl⟩ : ∃ e, d = e + 1 := ⟨d - 1, by omega⟩
                                rw [ha1, Int.toNat_natCast, pathF, if_pos ha1l, hnn] at hpath
                                rw [hnn] at hnb
                                simp only [apB, List.length_append, List.length_cons, List.length_nil]
                                refine ⟨by omega, by omega, by omega, by omega, by first | trivial | omega, _ ++ [_], d, by first | exact ivs_snoc _ _ | exact ivs_snoc [] _, by omega, ?_⟩
                                rw [hpath, List.append_assoc]; rfl
                          · refine sk ?_
                            refine bk ?_
                            refine rg ?_
                            refine st (h := O) ?_
                            refine st (h := sdA) ?_
                            refine st (h := O) ?_
                            refine nl ?_
                            refine bk3 (_) (_) (_) (by exact ⟨rfl, rfl, rfl, trivial⟩) (by exact ⟨rfl, rfl, rfl, rfl, trivial⟩) (by exact (by repeat' first | exact trivial | refine And.intro rfl ?_)) ?_ ?_
                            · omega
                            · have hnf : a1 + k ≠ foA l a1 := fun h => by rw [← h] at fl3; rw [fl3] at c6; cases c6
                              refine ⟨by omega, by omega, ?_⟩
                              rw [show (((a1 + k : Nat) : Int) + 1 - a1).toNat = k + 1 from by omega, hst]
                              rw [if_pos (of_not c3)]; simp only [c4, c5, if_true, if_false]
                        · refine sk ?_
                          refine sq ?_
                          refine rg ?_
                          iterate 2 (refine st (h := O) ?_)
                          refine st (h := (sdX (z := 11))) ?_
                          refine st (h := sdLN (hv := hN2 _)) ?_
                          refine cl (h := by exact fun ι hV hl => rforced_C _ (at_ l (a1 + k)) _ (hsv.r' _)) ?_
                          refine nl ?_
                          refine cB (fun c6 => ?_) (fun c6 => ?_)
                          · have hfe : a1 + k = foA l a1 := by have := hfle c6; omega
                            have hsf : scanF l xw a1 (foA l a1 + 1 - a1) = (if least < 0 then ((a1 + k : Nat) : Int) else least, if mW l a1 (a1 + k) - mZ l a1 (a1 + k) ≤ xw then ((a1 + k : Nat) : Int) else most) := by
                              rw [show foA l a1 + 1 - a1 = k + 1 from by omega, hst, if_pos (of_not c3)]
                            have hnx : nextF l xw a1 = if (scanF l xw a1 (foA l a1 + 1 - a1)).2 < 0 then (scanF l xw a1 (foA l a1 + 1 - a1)).1 else (scanF l xw a1 (foA l a1 + 1 - a1)).2 := rfl
                            rw [hsf] at hnx
                            dsimp only at hnx
                            refine ex ?_
                            iterate 2 (refine sq ?_)
                            refine rg ?_
                            iterate 2 (refine st (h := O) ?_)
                            refine nl ?_
                            refine cD (fun c7 => ?_) (fun c7 => ?_)
                            · refine rg ?_
                              iterate 2 (refine st (h := O) ?_)
                              refine nl ?_
                              refine sq ?_
                              refine rg ?_
                              iterate 2 (refine st (h := O) ?_)
                              refine sl ?_
                              first | refine apN (news := [_]) 67 true [(0, _), (3, _), (7, _)] [(3, _)] ?_ | refine apO (news := [_]) 1067 67 [(0, _), (3, _), (7, _)] [(3, _)] ?_
                              intro cap67 hc67 hd67
                              refine st (h := O) ?_
                              refine nl ?_
                              refine rg ?_
                              iterate 2 (refine st (h := O) ?_)
                              refine nl ?_
                              refine bk ?_
                              refine bk4 (some _) (_) (_) (_) (by exact ⟨rfl, rfl, trivial⟩) (by exact ⟨rfl, rfl, trivial⟩) (by exact (by repeat' first | exact trivial | refine And.intro rfl ?_)) ?_ ?_
                              · first | omega | (exfalso; omega)
                              · have hnn : nextF l xw a1 = _ := hnx
                                simp only [c4, c5, c7, if_true, if_false] at hnn
                                obtain ⟨d, rfl⟩ : ∃ e, d = e + 1 := ⟨d - 1, by omega⟩
                                rw [ha1, Int.toNat_natCast, pathF, if_pos ha1l, hnn] at hpath
                                rw [hnn] at hnb
                                simp only [apB, List.length_append, List.length_cons, List.length_nil]
                                refine ⟨by omega, by omega, by omega, by omega, by first | trivial | omega, _ ++ [_], d, by first | exact ivs_snoc _ _ | exact ivs_snoc [] _, by omega, ?_⟩
                                rw [hpath, List.append_assoc]; rfl
                            · refine sk ?_
                              refine sq ?_
                              refine rg ?_
                              iterate 2 (refine st (h := O) ?_)
                              refine sl ?_
                              first | refine apN (news := [_]) 67 true [(0, _), (3, _), (7, _)] [(3, _)] ?_ | refine apO (news := [_]) 1067 67 [(0, _), (3, _), (7, _)] [(3, _)] ?_
                              intro cap67 hc67 hd67
                              refine st (h := O) ?_
                              refine nl ?_
                              refine rg ?_
                              iterate 2 (refine st (h := O) ?_)
                              refine nl ?_
                              refine bk ?_
                              refine bk4 (some _) (_) (_) (_) (by exact ⟨rfl, rfl, trivial⟩) (by exact ⟨rfl, rfl, trivial⟩) (by exact (by repeat' first | exact trivial | refine And.intro rfl ?_)) ?_ ?_
                              · first | omega | (exfalso; omega)
                              · have hnn : nextF l xw a1 = _ := hnx
                                simp only [c4, c5, c7, if_true, if_false] at hnn
                                obtain ⟨d, rfl⟩ : ∃ e, d = e + 1 := ⟨d - 1, by omega⟩
                                rw [ha1, Int.toNat_natCast, pathF, if_pos ha1l, hnn] at hpath
                                rw [hnn] at hnb
                                simp only [apB, List.length_append, List.length_cons, List.length_nil]
                                refine ⟨by omega, by omega, by omega, by omega, by first | trivial | omega, _ ++ [_], d, by first | exact ivs_snoc _ _ | exact ivs_snoc [] _, by omega, ?_⟩
                                rw [hpath, List.append_assoc]; rfl
                          · refine sk ?_
                            refine bk ?_
                            refine rg ?_
                            refine st (h := O) ?_
                            refine st (h := sdA) ?_
                            refine st (h := O) ?_
                            refine nl ?_
                            refine bk3 (_) (_) (_) (by exact ⟨rfl, rfl, rfl, trivial⟩) (by exact ⟨rfl, rfl, rfl, rfl, trivial⟩) (by exact (by repeat' first | exact trivial | refine And.intro rfl ?_)) ?_ ?_
                            · omega
                            · have hnf : a1 + k ≠ foA l a1 := fun h => by rw [← h] at fl3; rw [fl3] at c6; cases c6
                              refine ⟨by omega, by omega, ?_⟩
                              rw [show (((a1 + k : Nat) : Int) + 1 - a1).toNat = k + 1 from by omega, hst]
                              rw [if_pos (of_not c3)]; simp only [c4, c5, if_true, if_false]
                · exfalso; omega
            · obtain rfl : a = l.length - 1 := by omega
              refine ex ?_
              refine sq ?_
              refine rg ?_
              iterate 2 (refine st (h := O) ?_)
              refine nl ?_
              refine rtX fun ι hV G hG => ?_
              rw [show ((l.length : Int) - 1 + 1).toNat = l.length from by omega, pathF_end, List.append_nil] at hpath
              rw [hpath]
              first
                | exact .inr ⟨rfl, rfl⟩
                | (simp only [ivs_length] at hcl; subst hcl
                   exact hG.ivs (r := _) (ι := ι) (by repeat (first | exact List.mem_cons_self .. | apply List.mem_cons_of_mem)) rfl (by omega))
  ·
    refine C.go hT Try.func19 Try.ntmps19 ?_
    refine sq ?_
    refine rg ?_
    refine bx ?_
    refine st (h := O) ?_
    refine nl ?_
    iterate 2 (refine sq ?_)
    refine rg ?_
    refine st (h := O) ?_
    refine cl (h := by exact fun ι hV hl => RGood_C _ _ [] (hv.le hl)) ?_
    iterate 2 (refine st (h := O) ?_)
    refine gB (fun g16 => ?_) (fun g16 => ?_)
    · refine sp ?_
      iterate 2 (refine sp ?_)
      refine st (h := O) ?_
      refine nl ?_
      refine cT ?_
      refine sq ?_
      refine rg ?_
      refine st (h := O) ?_
      refine nl ?_
      refine rt (fun G hG => ?_)
      rw [hno (fun h => not_of g16 h.1)]
      exact .inr ⟨rfl, rfl⟩
    · cases of_not g16

end Go.Proofs.Ytbeblgjibfoanaa.Am
namespace Go.Proofs.Ytbeblgjibfoanaa.Am
set_option linter.unusedSimpArgs false
set_option linter.unusedVariables false
set_option maxRecDepth 100000
set_option maxHeartbeats 4000000
open Go Go.RowKit
theorem RGl.forms {F : Mem} {g : Value} {xs : List Int} (h : RGl F g xs) : RInts F g xs ∨ (xs = [] ∧ ∃ b o s, g = .slice (some ⟨b, o, some (s + 1)⟩) 0 0) := by
  rcases h with h | ⟨b, o, s, h, h2⟩
  · exact .inl h
  · exact .inr ⟨h2, b, o, s, h⟩
theorem RGl.r {F : Mem} {g : Value} {xs : List Int} (h : RGl F g xs) (ι : Nat → Nat) : RGl F (r1 ι g) xs := by rw [h.sl.r]; exact h
theorem SameG_C (F : Mem) (v u : Value) (xs ys : List Int) (hv : RGl F v xs) (hu : RGl F u ys) : C0 Try.prog 17 [v, u] F (.bool (decide (xs = ys))) := by
  rcases hv.forms with hv | ⟨rfl, b, o, s, rfl⟩
  · rcases hu.forms with hu | ⟨rfl, b, o, s, rfl⟩
    · exact Same_C F v u xs ys hv hu
    · rcases hv with ⟨vb, vo, vc, rfl, _, _⟩ | ⟨rfl, rfl⟩
      all_goals
        refine C.go hT Try.func17 Try.ntmps17 ?_
        refine sq ?_
        refine rg ?_
        refine st (h := O) ?_
        refine nl ?_
        iterate 2 (refine sq ?_)
        refine rg ?_
        iterate 5 (refine st (h := O) ?_)
        refine nl ?_
        refine cN (fun c0 => ?_) (fun c0 => ?_)
        · refine sq ?_
          refine rg ?_
          refine st (h := O) ?_
          refine nl ?_
          refine rt ⟨?_, rfl⟩
          first
            | exact absurd rfl c0
            | (have : xs ≠ [] := fun e => c0 (by rw [e]; rfl)
               simp [this])
        · try (have hx : xs = [] := List.eq_nil_of_length_eq_zero (by omega)
               subst hx)
          refine sk ?_
          iterate 2 (refine sq ?_)
          refine rg ?_
          refine st (h := O) ?_
          refine nl ?_
          refine bl ?_
          refine J.loop1 (α := Nat) (fun k => k = 0) (fun k => [(5, .int .i64 k)]) [(0, _), (1, _)] (fun k => []) [] (fun k => 0) (0) (by exact ⟨rfl, trivial⟩) (by exact ⟨rfl, rfl, trivial⟩) (by exact trivial) ?_ ?_
          · rfl
          · intro k L1 K1 e1 e2 hI
            dsimp only [apV, apR, List.cons_append, List.nil_append] at e1 e2
            subst e1 e2
            subst hI
            iterate 2 (refine sq ?_)
            refine rg ?_
            iterate 4 (refine st (h := O) ?_)
            refine nl ?_
            refine cD (fun c1 => ?_) (fun c1 => ?_)
            · exact absurd c1 (by decide)
            · refine ex ?_
              refine sq ?_
              refine rg ?_
              refine st (h := O) ?_
              refine nl ?_
              exact rt ⟨rfl, rfl⟩
  · have hu2 := hu
    rcases hu.forms with (⟨ub, uo, uc, rfl, _, _⟩ | ⟨rfl, rfl⟩) | ⟨rfl, ub, uo, us, rfl⟩
    all_goals
      refine C.go hT Try.func17 Try.ntmps17 ?_
      refine sq ?_
      refine rg ?_
      refine st (h := O) ?_
      refine nl ?_
      iterate 2 (refine sq ?_)
      refine rg ?_
      iterate 5 (refine st (h := O) ?_)
      refine nl ?_
      refine cN (fun c0 => ?_) (fun c0 => ?_)
      · refine sq ?_
        refine rg ?_
        refine st (h := O) ?_
        refine nl ?_
        refine rt ⟨?_, rfl⟩
        first
          | exact absurd rfl c0
          | (have : ys ≠ [] := fun e => c0 (by rw [e]; rfl)
             simp [Ne.symm this])
      · try (have hx : ys = [] := List.eq_nil_of_length_eq_zero (by omega)
             subst hx)
        refine sk ?_
        iterate 2 (refine sq ?_)
        refine rg ?_
        refine st (h := O) ?_
        refine nl ?_
        refine bl ?_
        refine J.loop1 (α := Nat) (fun k => k = 0) (fun k => [(5, .int .i64 k)]) [(0, _), (1, _)] (fun k => []) [] (fun k => 0) (0) (by exact ⟨rfl, trivial⟩) (by exact ⟨rfl, rfl, trivial⟩) (by exact trivial) ?_ ?_
        · rfl
        · intro k L1 K1 e1 e2 hI
          dsimp only [apV, apR, List.cons_append, List.nil_append] at e1 e2
          subst e1 e2
          subst hI
          iterate 2 (refine sq ?_)
          refine rg ?_
          iterate 4 (refine st (h := O) ?_)
          refine nl ?_
          refine cD (fun c1 => ?_) (fun c1 => ?_)
          · exact absurd c1 (by decide)
          · refine ex ?_
            refine sq ?_
            refine rg ?_
            refine st (h := O) ?_
            refine nl ?_
            exact rt ⟨rfl, rfl⟩
theorem One_C (F : Mem) (x y : Item) (g h : Value) (hg : RGl F g x.glyphs) (hh : RGl F h y.glyphs) : C0 Try.prog 47 [.agg ⟨x.cells g⟩, .agg ⟨y.cells h⟩] F (.bool (decide (x = y))) := by
  have hS : ∀ G, RGl G g x.glyphs → RGl G h y.glyphs → C0 Try.prog 17 [g, h] G (.bool (decide (x.glyphs = y.glyphs))) := fun G h1 h2 => SameG_C G g h _ _ h1 h2
  obtain ⟨x0, x1, x2, x3, x4, x5, x6, x7, x8, x9, xg⟩ := x
  obtain ⟨y0, y1, y2, y3, y4, y5, y6, y7, y8, y9, yg⟩ := y
  dsimp only at hg hh hS
  have sg := hg.sl
  have sh := hh.sl
  rcases sg with (⟨gb, go, gn, gc, rfl⟩ | ⟨gn, gc, rfl⟩) | ⟨gb, go, gs, gn, gc, rfl⟩ <;> rcases sh with (⟨hb, ho, hn, hc, rfl⟩ | ⟨hn, hc, rfl⟩) | ⟨hb, ho, hs, hn, hc, rfl⟩
  all_goals
    refine C.go hT Try.func47 Try.ntmps47 ?_
    refine sq ?_
    refine rg ?_
    iterate 2 (refine bx ?_)
    refine st (h := O) ?_
    refine nl ?_
    refine sq ?_
    refine rg ?_
    refine st (h := sdFA) ?_
    refine st (h := sdL) ?_
    refine st (h := sdFA) ?_
    refine st (h := sdL) ?_
    iterate 2 (refine st (h := O) ?_)
    refine gD (fun g10 => ?_) (fun g10 => ?_)
    · refine sg (h := sdFA) ?_
      refine sg (h := sdL) ?_
      refine sg (h := sdFA) ?_
      refine sg (h := sdL) ?_
      refine sg (h := O) ?_
      iterate 2 (refine st (h := O) ?_)
      refine gD (fun g17 => ?_) (fun g17 => ?_)
      · refine sg (h := sdFA) ?_
        refine sg (h := sdL) ?_
        refine sg (h := sdFA) ?_
        refine sg (h := sdL) ?_
        refine sg (h := O) ?_
        iterate 2 (refine st (h := O) ?_)
        refine gD (fun g24 => ?_) (fun g24 => ?_)
        · refine sg (h := sdFA) ?_
          refine sg (h := sdL) ?_
          refine sg (h := sdFA) ?_
          refine sg (h := sdL) ?_
          refine sg (h := O) ?_
          iterate 2 (refine st (h := O) ?_)
          refine gD (fun g31 => ?_) (fun g31 => ?_)
          · refine sg (h := sdFA) ?_
            refine sg (h := sdL) ?_
            refine sg (h := sdFA) ?_
            refine sg (h := sdL) ?_
            refine sg (h := O) ?_
            iterate 2 (refine st (h := O) ?_)
            refine gD (fun g38 => ?_) (fun g38 => ?_)
            · refine sg (h := sdFA) ?_
              refine sg (h := sdL) ?_
              refine sg (h := sdFA) ?_
              refine sg (h := sdL) ?_
              refine sg (h := sbEq) ?_
              iterate 2 (refine st (h := O) ?_)
              refine gB (fun g45 => ?_) (fun g45 => ?_)
              · refine sg (h := sdFA) ?_
                refine sg (h := sdL) ?_
                refine sg (h := sdFA) ?_
                refine sg (h := sdL) ?_
                refine sg (h := O) ?_
                iterate 2 (refine st (h := O) ?_)
                refine gD (fun g52 => ?_) (fun g52 => ?_)
                · refine sg (h := sdFA) ?_
                  refine sg (h := sdL) ?_
                  refine sg (h := sdFA) ?_
                  refine sg (h := sdL) ?_
                  refine sg (h := O) ?_
                  iterate 2 (refine st (h := O) ?_)
                  refine gD (fun g59 => ?_) (fun g59 => ?_)
                  · refine sg (h := sdFA) ?_
                    refine sg (h := sdL) ?_
                    refine sg (h := sdFA) ?_
                    refine sg (h := sdL) ?_
                    refine sg (h := O) ?_
                    iterate 2 (refine st (h := O) ?_)
                    refine gD (fun g66 => ?_) (fun g66 => ?_)
                    · refine sg (h := sdFA) ?_
                      refine sg (h := sdL) ?_
                      refine sg (h := sdFA) ?_
                      refine sg (h := sdL) ?_
                      refine sg (h := O) ?_
                      iterate 2 (refine st (h := O) ?_)
                      refine gD (fun g73 => ?_) (fun g73 => ?_)
                      · refine sg (h := sdFA) ?_
                        refine sg (h := sdL) ?_
                        refine sg (h := sdFA) ?_
                        refine sg (h := sdL) ?_
                        refine clg (h := by exact fun ι hV hl => hS _ (hg.le hl) (hh.le hl)) ?_
                        iterate 2 (refine st (h := O) ?_)
                        refine nl ?_
                        refine rt ⟨congrArg Value.bool ?_, rfl⟩
                        simp only [Item.mk.injEq]
                        simp_all
                      · refine sp ?_
                        iterate 4 (refine sp ?_)
                        iterate 2 (refine st (h := O) ?_)
                        refine nl ?_
                        refine rt ⟨congrArg Value.bool ?_, rfl⟩
                        simp only [Item.mk.injEq]
                        simp_all
                    · refine sp ?_
                      iterate 4 (refine sp ?_)
                      iterate 2 (refine st (h := O) ?_)
                      iterate 5 (refine sp ?_)
                      iterate 2 (refine st (h := O) ?_)
                      refine nl ?_
                      refine rt ⟨congrArg Value.bool ?_, rfl⟩
                      simp only [Item.mk.injEq]
                      simp_all
                  · refine sp ?_
                    iterate 4 (refine sp ?_)
                    iterate 2 (refine st (h := O) ?_)
                    iterate 5 (refine sp ?_)
                    iterate 2 (refine st (h := O) ?_)
                    iterate 5 (refine sp ?_)
                    iterate 2 (refine st (h := O) ?_)
                    refine nl ?_
                    refine rt ⟨congrArg Value.bool ?_, rfl⟩
                    simp only [Item.mk.injEq]
                    simp_all
                · refine sp ?_
                  iterate 4 (refine sp ?_)
                  iterate 2 (refine st (h := O) ?_)
                  iterate 5 (refine sp ?_)
                  iterate 2 (refine st (h := O) ?_)
                  iterate 5 (refine sp ?_)
                  iterate 2 (refine st (h := O) ?_)
                  iterate 5 (refine sp ?_)
                  iterate 2 (refine st (h := O) ?_)
                  refine nl ?_
                  refine rt ⟨congrArg Value.bool ?_, rfl⟩
                  simp only [Item.mk.injEq]
                  simp_all
              · refine sp ?_
                iterate 4 (refine sp ?_)
                iterate 2 (refine st (h := O) ?_)
                iterate 5 (refine sp ?_)
                iterate 2 (refine st (h := O) ?_)
                iterate 5 (refine sp ?_)
                iterate 2 (refine st (h := O) ?_)
                iterate 5 (refine sp ?_)
                iterate 2 (refine st (h := O) ?_)
                iterate 5 (refine sp ?_)
                iterate 2 (refine st (h := O) ?_)
                refine nl ?_
                refine rt ⟨congrArg Value.bool ?_, rfl⟩
                simp only [Item.mk.injEq]
                simp_all
            · refine sp ?_
              iterate 4 (refine sp ?_)
              iterate 2 (refine st (h := O) ?_)
              iterate 5 (refine sp ?_)
              iterate 2 (refine st (h := O) ?_)
              iterate 5 (refine sp ?_)
              iterate 2 (refine st (h := O) ?_)
              iterate 5 (refine sp ?_)
              iterate 2 (refine st (h := O) ?_)
              iterate 5 (refine sp ?_)
              iterate 2 (refine st (h := O) ?_)
              iterate 5 (refine sp ?_)
              iterate 2 (refine st (h := O) ?_)
              refine nl ?_
              refine rt ⟨congrArg Value.bool ?_, rfl⟩
              simp only [Item.mk.injEq]
              simp_all
          · refine sp ?_
            iterate 4 (refine sp ?_)
            iterate 2 (refine st (h := O) ?_)
            iterate 5 (refine sp ?_)
            iterate 2 (refine st (h := O) ?_)
            iterate 5 (refine sp ?_)
            iterate 2 (refine st (h := O) ?_)
            iterate 5 (refine sp ?_)
            iterate 2 (refine st (h := O) ?_)
            iterate 5 (refine sp ?_)
            iterate 2 (refine st (h := O) ?_)
            iterate 5 (refine sp ?_)
            iterate 2 (refine st (h := O) ?_)
            iterate 5 (refine sp ?_)
            iterate 2 (refine st (h := O) ?_)
            refine nl ?_
            refine rt ⟨congrArg Value.bool ?_, rfl⟩
            simp only [Item.mk.injEq]
            simp_all
        · refine sp ?_
          iterate 4 (refine sp ?_)
          iterate 2 (refine st (h := O) ?_)
          iterate 5 (refine sp ?_)
          iterate 2 (refine st (h := O) ?_)
          iterate 5 (refine sp ?_)
          iterate 2 (refine st (h := O) ?_)
          iterate 5 (refine sp ?_)
          iterate 2 (refine st (h := O) ?_)
          iterate 5 (refine sp ?_)
          iterate 2 (refine st (h := O) ?_)
          iterate 5 (refine sp ?_)
          iterate 2 (refine st (h := O) ?_)
          iterate 5 (refine sp ?_)
          iterate 2 (refine st (h := O) ?_)
          iterate 5 (refine sp ?_)
          iterate 2 (refine st (h := O) ?_)
          refine nl ?_
          refine rt ⟨congrArg Value.bool ?_, rfl⟩
          simp only [Item.mk.injEq]
          simp_all
      · refine sp ?_
        iterate 4 (refine sp ?_)
        iterate 2 (refine st (h := O) ?_)
        iterate 5 (refine sp ?_)
        iterate 2 (refine st (h := O) ?_)
        iterate 5 (refine sp ?_)
        iterate 2 (refine st (h := O) ?_)
        iterate 5 (refine sp ?_)
        iterate 2 (refine st (h := O) ?_)
        iterate 5 (refine sp ?_)
        iterate 2 (refine st (h := O) ?_)
        iterate 5 (refine sp ?_)
        iterate 2 (refine st (h := O) ?_)
        iterate 5 (refine sp ?_)
        iterate 2 (refine st (h := O) ?_)
        iterate 5 (refine sp ?_)
        iterate 2 (refine st (h := O) ?_)
        iterate 5 (refine sp ?_)
        iterate 2 (refine st (h := O) ?_)
        refine nl ?_
        refine rt ⟨congrArg Value.bool ?_, rfl⟩
        simp only [Item.mk.injEq]
        simp_all
    · refine sp ?_
      iterate 4 (refine sp ?_)
      iterate 2 (refine st (h := O) ?_)
      iterate 5 (refine sp ?_)
      iterate 2 (refine st (h := O) ?_)
      iterate 5 (refine sp ?_)
      iterate 2 (refine st (h := O) ?_)
      iterate 5 (refine sp ?_)
      iterate 2 (refine st (h := O) ?_)
      iterate 5 (refine sp ?_)
      iterate 2 (refine st (h := O) ?_)
      iterate 5 (refine sp ?_)
      iterate 2 (refine st (h := O) ?_)
      iterate 5 (refine sp ?_)
      iterate 2 (refine st (h := O) ?_)
      iterate 5 (refine sp ?_)
      iterate 2 (refine st (h := O) ?_)
      iterate 5 (refine sp ?_)
      iterate 2 (refine st (h := O) ?_)
      iterate 5 (refine sp ?_)
      iterate 2 (refine st (h := O) ?_)
      refine nl ?_
      refine rt ⟨congrArg Value.bool ?_, rfl⟩
      simp only [Item.mk.injEq]
      simp_all
theorem same_takeI {l m : List Item} {k : Nat} (hl : l.length = m.length) (hk : k < l.length) (h : l.take k = m.take k) (e : at_ l k = at_ m k) : l.take (k + 1) = m.take (k + 1) := by
  rw [List.take_add_one, List.take_add_one, h, at_get hk, at_get (hl ▸ hk), e]
theorem SameItems_C (F : Mem) (v u : Value) (l m : List Item) (hv : RItems F v l) (hu : RItems F u m) : C0 Try.prog 20 [v, u] F (.bool (decide (l = m))) := by
  rcases hv.cases with ⟨vb, vo, vc, rfl, _, hr⟩ | ⟨rfl, rfl⟩ <;> rcases hu.cases with ⟨ub, uo, uc, rfl, _, hr2⟩ | ⟨rfl, rfl⟩
  ·
    refine C.go hT Try.func20 Try.ntmps20 ?_
    refine sq ?_
    refine rg ?_
    refine st (h := O) ?_
    refine nl ?_
    iterate 2 (refine sq ?_)
    refine rg ?_
    iterate 5 (refine st (h := O) ?_)
    refine nl ?_
    refine cN (fun c0 => ?_) (fun c0 => ?_)
    · refine sq ?_
      refine rg ?_
      refine st (h := O) ?_
      refine nl ?_
      refine rt ⟨?_, rfl⟩
      have : l ≠ m := fun e => c0 (by rw [e])
      simp [this]
    · have hlm : l.length = m.length := by omega
      refine sk ?_
      iterate 2 (refine sq ?_)
      refine rg ?_
      refine st (h := O) ?_
      refine nl ?_
      refine bl ?_
      refine J.loop1 (α := Nat) (fun k => k ≤ l.length ∧ l.take k = m.take k) (fun k => [(5, .int .i64 k)]) [(0, _), (1, _)] (fun k => []) [] (fun k => l.length - k) (0) (by exact ⟨rfl, trivial⟩) (by exact ⟨rfl, rfl, trivial⟩) (by exact trivial) ?_ ?_
      · exact ⟨Nat.zero_le _, rfl⟩
      · intro k L1 K1 e1 e2 hI
        dsimp only [apV, apR, List.cons_append, List.nil_append] at e1 e2
        subst e1 e2
        obtain ⟨hk, hok⟩ := hI
        iterate 2 (refine sq ?_)
        refine rg ?_
        iterate 4 (refine st (h := O) ?_)
        refine nl ?_
        refine cD (fun c1 => ?_) (fun c1 => ?_)
        · have hkl : k < l.length := by omega
          obtain ⟨_, _, _, _, _, _, g, hg2, hri⟩ := hr k hkl
          obtain ⟨_, _, _, _, _, _, g', hg2', hri'⟩ := hr2 k (by omega)
          have hN1 : ∀ K, rdN F K ⟨vb, vo + (k : Int).toNat * 11, none⟩ 11 = some ((at_ l k).cells g) := fun K => hg2
          have hN2 : ∀ K, rdN F K ⟨ub, uo + (k : Int).toNat * 11, none⟩ 11 = some ((at_ m k).cells g') := fun K => hg2'
          refine sk ?_
          refine sq ?_
          refine bl ?_
          refine sq ?_
          refine dr 10 [] [0, 1, 2, 3, 4, 5, 6, 7, 1008, 9] ?_
          iterate 2 (refine dt (hv := by exact O) ?_)
          refine dt (hv := by exact (sdX (z := 11))) ?_
          refine dt (hv := by exact sdLN (hv := hN1 _)) ?_
          iterate 2 (refine dt (hv := by exact O) ?_)
          refine dt (hv := by exact (sdX (z := 11))) ?_
          refine dt (hv := by exact sdLN (hv := hN2 _)) ?_
          refine dcl (hkp := by first | exact Kept.all | exact Kept.k0 | exact Kept.kY | exact Kept.kYY | exact Kept.kY3) (h := by exact fun ι hV hl => One_C _ (at_ l k) (at_ m k) _ _ ((hri.le hl).r _) ((hri'.le hl).r _)) ?_
          refine dt (hv := by exact O) ?_
          refine dn ?_
          refine cB (fun c2 => ?_) (fun c2 => ?_)
          · refine sq ?_
            refine rg ?_
            refine st (h := O) ?_
            refine nl ?_
            refine rt ⟨?_, rfl⟩
            have hne : at_ l k ≠ at_ m k := by simpa using c2
            have : l ≠ m := fun e => hne (by rw [e])
            simp [this]
          · refine sk ?_
            refine bk ?_
            refine rg ?_
            refine st (h := O) ?_
            refine st (h := sdA) ?_
            refine st (h := O) ?_
            refine nl ?_
            refine bk1 (k + 1) (by exact ⟨rfl, trivial⟩) (by exact ⟨rfl, rfl, trivial⟩) (by exact trivial) ?_ ?_
            · omega
            · exact ⟨by omega, same_takeI hlm hkl hok (by simpa using c2)⟩
        · obtain rfl : k = l.length := by omega
          rw [List.take_length, hlm, List.take_length] at hok
          refine ex ?_
          refine sq ?_
          refine rg ?_
          refine st (h := O) ?_
          refine nl ?_
          refine rt ⟨?_, rfl⟩
          simp [hok]
  ·
    refine C.go hT Try.func20 Try.ntmps20 ?_
    refine sq ?_
    refine rg ?_
    refine st (h := O) ?_
    refine nl ?_
    iterate 2 (refine sq ?_)
    refine rg ?_
    iterate 5 (refine st (h := O) ?_)
    refine nl ?_
    refine cN (fun c0 => ?_) (fun c0 => ?_)
    · refine sq ?_
      refine rg ?_
      refine st (h := O) ?_
      refine nl ?_
      refine rt ⟨?_, rfl⟩
      have : l ≠ [] := fun e => c0 (by rw [e]; rfl)
      simp [this]
    · have hx : l = [] := List.eq_nil_of_length_eq_zero (by omega)
      subst hx
      refine sk ?_
      iterate 2 (refine sq ?_)
      refine rg ?_
      refine st (h := O) ?_
      refine nl ?_
      refine bl ?_
      refine J.loop1 (α := Nat) (fun k => k = 0) (fun k => [(5, .int .i64 k)]) [(0, _), (1, _)] (fun k => []) [] (fun k => 0) (0) (by exact ⟨rfl, trivial⟩) (by exact ⟨rfl, rfl, trivial⟩) (by exact trivial) ?_ ?_
      · rfl
      · intro k L1 K1 e1 e2 hI
        dsimp only [apV, apR, List.cons_append, List.nil_append] at e1 e2
        subst e1 e2
        subst hI
        iterate 2 (refine sq ?_)
        refine rg ?_
        iterate 4 (refine st (h := O) ?_)
        refine nl ?_
        refine cD (fun c1 => ?_) (fun c1 => ?_)
        · exact absurd c1 (by decide)
        · refine ex ?_
          refine sq ?_
          refine rg ?_
          refine st (h := O) ?_
          refine nl ?_
          exact rt ⟨rfl, rfl⟩
  ·
    refine C.go hT Try.func20 Try.ntmps20 ?_
    refine sq ?_
    refine rg ?_
    refine st (h := O) ?_
    refine nl ?_
    iterate 2 (refine sq ?_)
    refine rg ?_
    iterate 5 (refine st (h := O) ?_)
    refine nl ?_
    refine cN (fun c0 => ?_) (fun c0 => ?_)
    · refine sq ?_
      refine rg ?_
      refine st (h := O) ?_
      refine nl ?_
      refine rt ⟨?_, rfl⟩
      have : m ≠ [] := fun e => c0 (by rw [e]; rfl)
      simp [Ne.symm this]
    · have hx : m = [] := List.eq_nil_of_length_eq_zero (by omega)
      subst hx
      refine sk ?_
      iterate 2 (refine sq ?_)
      refine rg ?_
      refine st (h := O) ?_
      refine nl ?_
      refine bl ?_
      refine J.loop1 (α := Nat) (fun k => k = 0) (fun k => [(5, .int .i64 k)]) [(0, _), (1, _)] (fun k => []) [] (fun k => 0) (0) (by exact ⟨rfl, trivial⟩) (by exact ⟨rfl, rfl, trivial⟩) (by exact trivial) ?_ ?_
      · rfl
      · intro k L1 K1 e1 e2 hI
        dsimp only [apV, apR, List.cons_append, List.nil_append] at e1 e2
        subst e1 e2
        subst hI
        iterate 2 (refine sq ?_)
        refine rg ?_
        iterate 4 (refine st (h := O) ?_)
        refine nl ?_
        refine cD (fun c1 => ?_) (fun c1 => ?_)
        · exact absurd c1 (by decide)
        · refine ex ?_
          refine sq ?_
          refine rg ?_
          refine st (h := O) ?_
          refine nl ?_
          exact rt ⟨rfl, rfl⟩
  ·
    refine C.go hT Try.func20 Try.ntmps20 ?_
    refine sq ?_
    refine rg ?_
    refine st (h := O) ?_
    refine nl ?_
    iterate 2 (refine sq ?_)
    refine rg ?_
    iterate 5 (refine st (h := O) ?_)
    refine nl ?_
    refine cN (fun c0 => ?_) (fun c0 => ?_)
    · exact absurd rfl c0
    · refine sk ?_
      iterate 2 (refine sq ?_)
      refine rg ?_
      refine st (h := O) ?_
      refine nl ?_
      refine bl ?_
      refine J.loop1 (α := Nat) (fun k => k = 0) (fun k => [(5, .int .i64 k)]) [(0, _), (1, _)] (fun k => []) [] (fun k => 0) (0) (by exact ⟨rfl, trivial⟩) (by exact ⟨rfl, rfl, trivial⟩) (by exact trivial) ?_ ?_
      · rfl
      · intro k L1 K1 e1 e2 hI
        dsimp only [apV, apR, List.cons_append, List.nil_append] at e1 e2
        subst e1 e2
        subst hI
        iterate 2 (refine sq ?_)
        refine rg ?_
        iterate 4 (refine st (h := O) ?_)
        refine nl ?_
        refine cD (fun c1 => ?_) (fun c1 => ?_)
        · exact absurd c1 (by decide)
        · refine ex ?_
          refine sq ?_
          refine rg ?_
          refine st (h := O) ?_
          refine nl ?_
          exact rt ⟨rfl, rfl⟩

end Go.Proofs.Ytbeblgjibfoanaa.Am
namespace Go.Proofs.Ytbeblgjibfoanaa.Am
set_option linter.unusedSimpArgs false
set_option linter.unusedVariables false
set_option maxRecDepth 100000
set_option maxHeartbeats 4000000
open Go Go.RowKit
theorem legal_pos {l : List Item} (hg : goodL l = true) {b : Nat} (h : legalB l b = true) : 0 < b := by
  rcases Nat.eq_zero_or_pos b with rfl | hb
  · simp only [goodL, Bool.and_eq_true, decide_eq_true_eq] at hg
    simp [legalB, hg.1.1.2] at h
  · exact hb
theorem row_least {l : List Item} (hg : goodL l = true) {x : Par} {t : Nat → Nat → Int × Int} {a1 b : Nat} (hok : okB l x t a1 b = true) (ha : a1 ≤ b) (c : Nat) : ∀ m, b < a1 + m → (bRow l x t a1 m c).1 ≠ 0 ∧ (bRow l x t a1 m c).2 ≤ cstB l x t a1 b c
  | 0, h => by omega
  | m + 1, h => by
    simp only [bRow]
    by_cases hb : b = a1 + m
    · subst hb
      rw [if_pos hok]
      have hleg : legalB l ((a1 + m : Nat) : Int) = true := by
        simp only [okB, Bool.and_eq_true] at hok
        exact hok.1
      have hp := legal_pos hg hleg
      unfold updB
      split
      · exact ⟨by dsimp only; omega, Int.le_refl _⟩
      · rename_i hn
        exact ⟨fun h => hn (.inl h), by have : ¬ cstB l x t a1 (a1 + m) c < (bRow l x t a1 m c).2 := fun h => hn (.inr h)
                                        omega⟩
    · have ih := row_least hg hok ha c m (by omega)
      split
      · unfold updB
        split
        · rename_i hk hu
          rcases hu with hu | hu
          · exact absurd hu ih.1
          · exact ⟨by dsimp only; omega, by dsimp only; omega⟩
        · exact ih
      · exact ih
theorem bRow_cost {l : List Item} {x : Par} {t : Nat → Nat → Int × Int} {a1 : Nat} : ∀ m c, (bRow l x t a1 m c).1 ≠ 0 → ∃ b, a1 ≤ b ∧ b < a1 + m ∧ (bRow l x t a1 m c).1 = (b : Nat) ∧ okB l x t a1 b = true ∧ (bRow l x t a1 m c).2 = cstB l x t a1 b c
  | 0, c, h => by simp [bRow] at h
  | m + 1, c, h => by
    simp only [bRow] at h ⊢
    split
    · rename_i hk
      rw [if_pos hk] at h
      unfold updB at h ⊢
      split
      · exact ⟨a1 + m, by omega, by omega, rfl, hk, rfl⟩
      · rename_i hn
        rw [if_neg hn] at h
        obtain ⟨b, h1, h2, h3⟩ := bRow_cost m c h
        exact ⟨b, h1, by omega, h3⟩
    · rename_i hk
      rw [if_neg hk] at h
      obtain ⟨b, h1, h2, h3⟩ := bRow_cost m c h
      exact ⟨b, h1, by omega, h3⟩
theorem judD_foA {l : List Item} {x : Par} {a1 b : Nat} (h : (judD l x a1 b).fits = true) : b ≤ foA l a1 := by
  unfold judD at h
  split at h <;> simp only [Bool.and_eq_true, decide_eq_true_eq] at h <;> omega
theorem wayD_cons {l : List Item} {x : Par} {a b cls sum c : Int} {bs : List Int} (h : wayD l x (b :: bs) a cls sum = (c, true)) : a < b ∧ legalB l b = true ∧ (judD l x (a + 1).toNat b.toNat).fits = true ∧ wayD l x bs b (judD l x (a + 1).toNat b.toNat).cls (sum + demD l x (judD l x (a + 1).toNat b.toNat).bad (judD l x (a + 1).toNat b.toNat).cls cls a b) = (c, true) := by
  simp only [wayD] at h
  split at h
  · rename_i h1
    split at h
    · rename_i h2
      exact ⟨h1.1, h1.2, h2, h⟩
    · simp at h
  · simp at h
/-- where a way ends -/
def lastO : Int → List Int → Int
  | a, [] => a
  | _, b :: bs => lastO b bs
theorem lastO_ints : ∀ (bs : List Int) (a : Int), 0 < bs.length → lastO a bs = ints bs (bs.length - 1)
  | [], _, h => by simp at h
  | [b], a, _ => rfl
  | b :: b' :: bs, a, _ => by
    have := lastO_ints (b' :: bs) b (by simp)
    simp only [lastO] at this ⊢
    rw [this]
    simp [ints]
/-- what stands behind a place, in the table as it is when that place is done -/
theorem tab_row {l : List Item} (hg : goodL l = true) {x : Par} {a1 : Nat} (ha : a1 < l.length) (hl : a1 = 0 ∨ legalB l ((a1 : Int) - 1) = true) : tabD l x l.length a1 = bRow l x (tabD l x (l.length - 1 - a1)) a1 (foA l a1 + 1 - a1) := by
  rw [tabD_stable ha (by omega), rowD, if_pos hl]
theorem tab_behind {l : List Item} {x : Par} {a1 b : Nat} (h : a1 ≤ b) : tabD l x (l.length - 1 - a1) (b + 1) = tabD l x l.length (b + 1) := tabD_same (by omega) (by omega)
theorem least_from {l : List Item} (hg : goodL l = true) {x : Par} : ∀ (bs : List Int) (a1 : Nat) (cls sum c : Int), (a1 = 0 ∨ legalB l ((a1 : Int) - 1) = true) → a1 < l.length → 0 ≤ cls → lastO ((a1 : Int) - 1) bs = l.length - 1 → wayD l x bs ((a1 : Int) - 1) cls sum = (c, true) →
    (tabD l x l.length a1 cls.toNat).1 ≠ 0 ∧ sum + (tabD l x l.length a1 cls.toNat).2 ≤ c
  | [], a1, cls, sum, c, _, ha, _, hlast, _ => by simp only [lastO] at hlast; omega
  | b :: bs, a1, cls, sum, c, hl, ha, hcls, hlast, h => by
    obtain ⟨h1, h2, h3, h4⟩ := wayD_cons h
    have hb := legal_lt h2
    obtain ⟨b', rfl⟩ := Int.eq_ofNat_of_zero_le hb.1
    rw [show ((a1 : Int) - 1 + 1).toNat = a1 from by omega, Int.toNat_natCast] at h3 h4
    have hf := judD_foA h3
    have hfo := foA_last hg ha
    have hcl := judD_cls l x a1 b'
    simp only [lastO] at hlast
    have key : okB l x (tabD l x (l.length - 1 - a1)) a1 b' = true ∧ sum + cstB l x (tabD l x (l.length - 1 - a1)) a1 b' cls.toNat ≤ c := by
      have hdem : ((cls.toNat : Nat) : Int) = cls := by omega
      by_cases hend : b' < l.length - 1
      · have ih := least_from hg (x := x) bs (b' + 1) (judD l x a1 b').cls _ c (.inr (by rw [show (((b' + 1 : Nat) : Int) - 1) = b' from by omega]; exact h2)) (by omega) hcl.1 (by rw [show (((b' + 1 : Nat) : Int) - 1) = b' from by omega]; exact hlast) (by rw [show (((b' + 1 : Nat) : Int) - 1) = b' from by omega]; exact h4)
        constructor
        · simp only [okB, Bool.and_eq_true, Bool.or_eq_true, Bool.not_eq_true', decide_eq_false_iff_not]
          refine ⟨h2, h3, .inr ?_⟩
          rw [tab_behind (by omega)]; exact ih.1
        · unfold cstB
          rw [if_pos hend, tab_behind (by omega), hdem]
          have := ih.2
          omega
      · constructor
        · simp only [okB, Bool.and_eq_true, Bool.or_eq_true, Bool.not_eq_true', decide_eq_false_iff_not]
          exact ⟨h2, h3, .inl hend⟩
        · unfold cstB
          rw [if_neg hend, hdem]
          cases bs with
          | nil =>
            simp only [wayD, Prod.mk.injEq] at h4
            omega
          | cons b2 bs =>
            obtain ⟨g1, g2, _⟩ := wayD_cons h4
            have := legal_lt g2
            omega
    rw [tab_row hg ha hl]
    have := row_least hg key.1 (by omega) cls.toNat (foA l a1 + 1 - a1) (by omega)
    exact ⟨this.1, by omega⟩
/-- no way costs less than the best one -/
theorem least_way {l : List Item} {x : Par} {at' : List Int} {c : Int} (h : costD l at' x = (c, true)) : (bestD l x).2.2 = true ∧ (bestD l x).2.1 ≤ c := by
  unfold costD at h
  split at h
  · rename_i hc
    obtain ⟨hg, hx, hp, hlast⟩ := hc
    have hlen := good_len hg
    have := least_from hg (x := x) at' 0 1 0 c (.inl rfl) (by omega) (by omega) (by rw [lastO_ints _ _ hp]; exact hlast) h
    have e1 : (1 : Int).toNat = 1 := rfl
    rw [e1] at this
    unfold bestD
    rw [if_pos ⟨hg, hx, this.1⟩]
    exact ⟨rfl, by have := this.2; dsimp only; omega⟩
  · simp at h
theorem path_cost {l : List Item} (hg : goodL l = true) {x : Par} : ∀ d a1 (cls sum : Int), l.length ≤ a1 + d → a1 ≤ l.length → (a1 = 0 ∨ legalB l ((a1 : Int) - 1) = true) → 0 ≤ cls → (a1 < l.length → (tabD l x l.length a1 cls.toNat).1 ≠ 0) →
    lastO ((a1 : Int) - 1) (pathB l x (tabD l x l.length) d a1 cls) = l.length - 1 ∧ wayD l x (pathB l x (tabD l x l.length) d a1 cls) ((a1 : Int) - 1) cls sum = (sum + (if a1 < l.length then (tabD l x l.length a1 cls.toNat).2 else 0), true)
  | 0, a1, cls, sum, h, h2, _, _, _ => by
    simp only [pathB, lastO, wayD]
    rw [if_neg (by omega)]
    exact ⟨by omega, by rw [Int.add_zero]⟩
  | d + 1, a1, cls, sum, h, h2, hl, hcls, hn => by
    simp only [pathB]
    by_cases ha : a1 < l.length
    · rw [if_pos ha, if_pos ha]
      have hn' := hn ha
      rw [tab_row hg ha hl] at hn'
      obtain ⟨b, g1, g2, g3, g4, g5⟩ := bRow_cost _ _ hn'
      rw [tab_row hg ha hl, g3, g5]
      have hfo := foA_last hg ha
      simp only [okB, Bool.and_eq_true, Bool.or_eq_true, Bool.not_eq_true', decide_eq_false_iff_not] at g4
      obtain ⟨q1, q2, q3⟩ := g4
      rw [Int.toNat_natCast, show ((b : Int) + 1).toNat = b + 1 from by omega]
      have hcl := judD_cls l x a1 b
      have hdem : ((cls.toNat : Nat) : Int) = cls := by omega
      have ih := path_cost hg (x := x) d (b + 1) (judD l x a1 b).cls (sum + demD l x (judD l x a1 b).bad (judD l x a1 b).cls cls ((a1 : Int) - 1) b) (by omega) (by omega) (.inr (by rw [show (((b + 1 : Nat) : Int) - 1) = b from by omega]; exact q1)) hcl.1 (fun hb => by
        rw [← tab_behind (x := x) (a1 := a1) (by omega)]
        rcases q3 with q3 | q3
        · omega
        · exact q3)
      rw [show (((b + 1 : Nat) : Int) - 1) = b from by omega] at ih
      refine ⟨ih.1, ?_⟩
      rw [wayD_step ⟨by omega, q1⟩ (by rw [show ((a1 : Int) - 1 + 1).toNat = a1 from by omega, Int.toNat_natCast]; exact q2)]
      rw [show ((a1 : Int) - 1 + 1).toNat = a1 from by omega, Int.toNat_natCast, ih.2]
      unfold cstB
      rw [hdem, tab_behind (by omega)]
      by_cases hb : b < l.length - 1
      · rw [if_pos hb, if_pos (by omega), Int.add_assoc]
      · rw [if_neg hb, if_neg (by omega), Int.add_zero, Int.add_zero]
    · rw [if_neg ha, if_neg ha]
      simp only [lastO, wayD]
      exact ⟨by omega, by rw [Int.add_zero]⟩
/-- the best one is a way that costs what is said -/
theorem best_cost {l : List Item} {x : Par} (h : (bestD l x).2.2 = true) : costD l (bestD l x).1 x = ((bestD l x).2.1, true) := by
  unfold bestD at h ⊢
  split
  · rename_i hc
    obtain ⟨hg, hx, hn⟩ := hc
    have hlen := good_len hg
    have := path_cost hg (x := x) l.length 0 1 0 (by omega) (by omega) (.inl rfl) (by omega) (fun _ => hn)
    rw [if_pos (by omega)] at this
    have hp : 0 < (pathB l x (tabD l x l.length) l.length 0 1).length := by
      rcases Nat.eq_zero_or_pos (pathB l x (tabD l x l.length) l.length 0 1).length with h0 | h0
      · rw [List.length_eq_zero_iff] at h0
        rw [h0] at this
        have := this.1
        simp only [lastO] at this
        omega
      · exact h0
    dsimp only
    unfold costD
    rw [if_pos ⟨hg, hx, hp, by rw [← lastO_ints _ (((0 : Nat) : Int) - 1) hp]; exact this.1⟩]
    have e := this.2
    rw [Int.zero_add] at e
    exact e
  · rename_i hc
    rw [if_neg hc] at h
    cases h
theorem best_none {l : List Item} {x : Par} (h : ¬ (bestD l x).2.2 = true) : bestD l x = ([], 0, false) := by
  unfold bestD at h ⊢
  split
  · rename_i hc
    rw [if_pos hc] at h
    exact absurd rfl h
  · rfl
/-- a wider tolerance lets all through that went through -/
theorem judD_wider {l : List Item} {x y : Par} {a1 b : Nat} (hw : y.w = x.w) (ht : x.tol ≤ y.tol) : (judD l y a1 b).bad = (judD l x a1 b).bad ∧ (judD l y a1 b).cls = (judD l x a1 b).cls ∧ ((judD l x a1 b).fits = true → (judD l y a1 b).fits = true) := by
  unfold judD
  rw [hw]
  split <;> refine ⟨rfl, rfl, ?_⟩ <;> simp only [Bool.and_eq_true, decide_eq_true_eq] <;> omega
theorem wayD_wider {l : List Item} {x y : Par} (hw : y.w = x.w) (ht : x.tol ≤ y.tol) (h1 : y.line = x.line) (h2 : y.twice = x.twice) (h3 : y.odd = x.odd) : ∀ (bs : List Int) (a cls sum c : Int), wayD l x bs a cls sum = (c, true) → wayD l y bs a cls sum = (c, true)
  | [], a, cls, sum, c, h => h
  | b :: bs, a, cls, sum, c, h => by
    obtain ⟨g1, g2, g3, g4⟩ := wayD_cons h
    obtain ⟨j1, j2, j3⟩ := judD_wider (l := l) (a1 := (a + 1).toNat) (b := b.toNat) hw ht
    rw [wayD_step ⟨g1, g2⟩ (j3 g3), j1, j2]
    have hd : ∀ bad cls prev a b, demD l y bad cls prev a b = demD l x bad cls prev a b := fun bad cls prev a b => by simp only [demD, moreD, h1, h2, h3]
    rw [hd]
    exact wayD_wider hw ht h1 h2 h3 bs _ _ _ _ g4
theorem best_wider {l : List Item} {x : Par} {m : Int} (h0 : 0 ≤ m) (h1 : 0 ≤ x.tol) (h2 : x.tol + m ≤ 10000) (h : (bestD l x).2.2 = true) : (bestD l { x with tol := x.tol + m }).2.2 = true ∧ (bestD l { x with tol := x.tol + m }).2.1 ≤ (bestD l x).2.1 := by
  have hc := best_cost h
  refine least_way (at' := (bestD l x).1) (c := (bestD l x).2.1) ?_
  unfold costD at hc ⊢
  split at hc
  · rename_i hx
    obtain ⟨hg, hgx, h3, h4⟩ := hx
    rw [if_pos ⟨hg, by simp only [Par.good, decide_eq_true_eq] at hgx ⊢; omega, h3, h4⟩]
    exact wayD_wider (x := x) (y := { x with tol := x.tol + m }) rfl (by dsimp only; omega) rfl rfl rfl _ _ _ _ _ hc
  · simp at hc

end Go.Proofs.Ytbeblgjibfoanaa.Am
namespace Go.Proofs.Ytbeblgjibfoanaa.Am
set_option linter.unusedSimpArgs false
set_option linter.unusedVariables false
set_option maxRecDepth 100000
set_option maxHeartbeats 4000000
open Go Go.RowKit
def rfW (p : Int × Int) : Int × Int := (if p.1 = 0 then -1 else p.1, p.2)
/-- a row of the reference's table, where it lies -/
def TW (T : Nat → Int) (f : Nat → Int × Int) : Prop := ∀ c, c < 4 → T (c * 2) = (rfW (f c)).1 ∧ T (c * 2 + 1) = (rfW (f c)).2
theorem TW.cong {T : Nat → Int} {f f' : Nat → Int × Int} (h : TW T f) (he : ∀ c, c < 4 → f' c = f c) : TW T f' := fun c hc => by rw [he c hc]; exact h c hc
theorem TW.upd {T : Nat → Int} {f f' : Nat → Int × Int} {c A B : Nat} {p q : Int} (h : TW T f) (hc : c < 4) (hA : A = c * 2) (hB : B = c * 2 + 1) (h1 : f' c = (p, q)) (hp : p ≠ 0) (he : ∀ c', c' < 4 → c' ≠ c → f' c' = f c') : TW (setI (setI T A p) B q) f' := by
  subst hA hB
  intro c' hc'
  by_cases e : c' = c
  · subst e
    have n1 : c' * 2 ≠ c' * 2 + 1 := by omega
    simp [setI, h1, n1, rfW, hp]
  · have n1 : c' * 2 ≠ c * 2 := by omega
    have n2 : c' * 2 ≠ c * 2 + 1 := by omega
    have n3 : c' * 2 + 1 ≠ c * 2 + 1 := by omega
    have n4 : c' * 2 + 1 ≠ c * 2 := by omega
    simp only [setI, n1, n2, n3, n4, if_false, he c' hc' e]
    exact h c' hc'
def rowL (f : Nat → Int × Int) : List Int := [(rfW (f 0)).1, (rfW (f 0)).2, (rfW (f 1)).1, (rfW (f 1)).2, (rfW (f 2)).1, (rfW (f 2)).2, (rfW (f 3)).1, (rfW (f 3)).2]
theorem TW.row {T : Nat → Int} {f : Nat → Int × Int} (h : TW T f) : gI T 8 = ivs (rowL f) := by
  have h0 := h 0 (by omega)
  have h1 := h 1 (by omega)
  have h2 := h 2 (by omega)
  have h3 := h 3 (by omega)
  simp only [Nat.zero_mul, Nat.zero_add, Nat.one_mul, Nat.reduceMul, Nat.reduceAdd] at h0 h1 h2 h3
  show [Value.int .i64 (T 0), .int .i64 (T 1), .int .i64 (T 2), .int .i64 (T 3), .int .i64 (T 4), .int .i64 (T 5), .int .i64 (T 6), .int .i64 (T 7)] = _
  rw [h0.1, h0.2, h1.1, h1.2, h2.1, h2.2, h3.1, h3.2]
  rfl
/-- two numbers of a row, written -/
theorem gI_put2 (T : Nat → Int) (n i : Nat) (p q : Int) : putL (gI T n) i [.int .i64 p, .int .i64 q] = gI (setI (setI T i p) (i + 1) q) n := by
  rw [← gI_put, ← gI_put]; rfl
/-- what one goes on to behind b, and what that costs, as the reference tells it -/
def restD (l : List Item) (t : Nat → Nat → Int × Int) (b c : Nat) : Int × Int := if b < l.length - 1 then rfW (t (b + 1) c) else ((l.length : Int), 0)
theorem costA_nat (l : List Item) (k : Nat) : costA l (k : Int) = costB (at_ l k) := by
  unfold costA
  rw [if_pos (by omega), Int.toNat_natCast]
theorem flagA_nat (l : List Item) (k : Nat) : flagA l (k : Int) = flagB (at_ l k) := by
  unfold flagA
  rw [Int.toNat_natCast, decide_eq_true (by omega), Bool.true_and]
theorem from_C (F : Mem) (v : Value) (l : List Item) (a : Int) (a1 : Nat) (x : Par) (tb to tc : Nat) (t : Nat → Nat → Int × Int) (hv : RItems F v l) (hg : goodL l = true) (hx : x.good = true) (ha : a + 1 = a1) (ha1 : a1 < l.length)
    (hTb : ∀ b c, a1 ≤ b → b < l.length → c < 4 → look F ⟨tb, to + b * 8 + c * 2, none⟩ = some (.int .i64 (restD l t b c).1) ∧ look F ⟨tb, to + b * 8 + c * 2 + 1, none⟩ = some (.int .i64 (restD l t b c).2)) (htk : ∀ i c, i < l.length → TabOk l i (t i c)) :
    C0 Try.prog 42 [v, .int .i64 a, x.v, .slice (some ⟨tb, to, none⟩) (l.length + 1) tc] F (.agg ⟨ivs (rowL (bRow l x t a1 (foA l a1 + 1 - a1)))⟩) := by
  have hlen := good_len hg
  obtain ⟨fl1, fl2, fl3⟩ := foA_last hg ha1
  obtain ⟨xw, tol, line, twice, odd⟩ := x
  generalize hxe : (⟨xw, tol, line, twice, odd⟩ : Par) = x at *
  have hxv : x.v = .agg #[.int .i64 xw, .int .i64 tol, .int .i64 line, .int .i64 twice, .int .i64 odd] := by rw [← hxe]; rfl
  have hxl : x.line = line := by rw [← hxe]
  have hTo : ∀ (G : Mem) (b : Nat), RItems G v l → a1 ≤ b → b ≤ foA l a1 → C0 Try.prog 43 [v, .int .i64 a, .int .i64 b, .agg #[.int .i64 xw, .int .i64 tol, .int .i64 line, .int .i64 twice, .int .i64 odd]] G (judgV (judD l x a1 b)) := fun G b h h1 h2 => by
    have := told24_C G v l a a1 b x h hg hx ha h1 (by omega)
    rw [hxv, toldD, if_pos h2] at this
    exact this
  have hMo : ∀ (G : Mem) (c cls : Int) (f g : Bool), C0 Try.prog 51 [.int .i64 c, .int .i64 cls, .bool f, .bool g, .agg #[.int .i64 xw, .int .i64 tol, .int .i64 line, .int .i64 twice, .int .i64 odd]] G (.int .i64 (moreD c cls f g x)) := fun G c cls f g => by rw [← hxv]; exact r23More_C G c cls f g x
  rw [hxv]
  rcases hv.cases with ⟨vb, vo, vc, rfl, _, hr⟩ | ⟨rfl, rfl⟩
  · have hIt : ∀ (k : Nat), k < l.length → ∃ g, (∀ K (q : Int), q = k → rdN F K ⟨vb, vo + q.toNat * 11, none⟩ 11 = some ((at_ l k).cells g)) ∧ SlG g := fun k hk => by
      obtain ⟨_, _, _, _, _, _, g, hg2, hri⟩ := hr k hk
      exact ⟨g, fun K q hq => by subst hq; exact hg2, hri.sl⟩
    refine C.go hT Try.func42 Try.ntmps42 ?_
    refine sq ?_
    refine rg ?_
    refine bx ?_
    refine al ?_
    refine nl ?_
    refine sq ?_
    refine rg ?_
    iterate 5 (refine st (h := O) ?_)
    refine al ?_
    refine so ?_
    refine nl ?_
    iterate 2 (refine sq ?_)
    refine rg ?_
    refine st (h := O) ?_
    refine st (h := sdA) ?_
    refine st (h := O) ?_
    refine nl ?_
    refine bl ?_
    refine J.loop2 (α := Int) (β := Nat → Int) (fun b T => (a1 : Int) ≤ b ∧ b ≤ foA l a1 ∧ TW T (bRow l x t a1 (b - a1).toNat)) (fun b T => [(10, .int .i64 b)]) [(0, _), (1, _), (3, _), (6, _), (8, _), (9, _)] (fun b T => [(9, { elem := 80, cs := gI T 8, room := 8, flat := false })]) [(8, _), (6, _)] (fun b T => (foA l a1 + 1 - b).toNat) (_) ((fun k => if k % 2 = 0 then -1 else 0)) (by exact ⟨rfl, trivial⟩) (by exact ⟨rfl, rfl, rfl, rfl, rfl, rfl, trivial⟩) (by exact ⟨rfl, rfl, rfl, rfl, rfl, rfl, trivial⟩) ?_ ?_
    · refine ⟨by omega, by omega, ?_⟩
      rw [show (a + 1 - (a1 : Int)).toNat = 0 from by omega]
      intro c hc
      have e1 : c * 2 % 2 = 0 := by omega
      have e2 : ¬ (c * 2 + 1) % 2 = 0 := by omega
      simp [bRow, rfW, e1, e2]
    · intro b T L1 K1 e1 e2 hI
      dsimp only [apV, apR, List.cons_append, List.nil_append] at e1 e2
      subst e1 e2
      obtain ⟨hb0, hb1, hTw⟩ := hI
      iterate 2 (refine sq ?_)
      refine rg ?_
      iterate 4 (refine st (h := O) ?_)
      refine nl ?_
      refine cD (fun c0 => ?_) (fun c0 => ?_)
      · obtain ⟨b1, rfl⟩ := Int.eq_ofNat_of_zero_le (show (0 : Int) ≤ b by omega)
        obtain ⟨m, rfl⟩ : ∃ m, b1 = a1 + m := ⟨b1 - a1, by omega⟩
        rw [show ((a1 + m : Nat) : Int) - a1 = m from by omega, Int.toNat_natCast] at hTw
        have hbl : a1 + m < l.length := by omega
        obtain ⟨g, hN2, hsv⟩ := hIt (a1 + m) hbl
        have hj := judD_cls l x a1 (a1 + m)
        have hfle := fun h : forceB (at_ l (a1 + m)) = true => foA_le (i := a1) (by omega) (by omega) h
        have hbk := bRow_ok (x := x) htk ha1 m (by omega)
        refine sk ?_
        refine sq ?_
        refine bl ?_
        iterate 2 (refine sq ?_)
        refine rg ?_
        iterate 2 (refine st (h := O) ?_)
        refine cl (h := by exact fun ι hV hl => RLegal_C _ _ l _ (hv.le hl)) ?_
        refine st (h := O) ?_
        refine nl ?_
        refine cB (fun c1 => ?_) (fun c1 => ?_)
        · refine ex ?_
          refine rg ?_
          refine st (h := O) ?_
          refine st (h := sdA) ?_
          refine st (h := O) ?_
          refine nl ?_
          refine bk2 (_) (_) (by exact ⟨rfl, trivial⟩) (by exact ⟨rfl, rfl, rfl, rfl, rfl, rfl, trivial⟩) (by exact ⟨rfl, rfl, rfl, rfl, rfl, rfl, trivial⟩) ?_ ?_
          · omega
          · have hnf : a1 + m ≠ foA l a1 := fun h => by
              have h2 := legal_force fl2 fl3
              rw [← h] at h2
              exact not_of c1 h2
            refine ⟨by omega, by omega, ?_⟩
            rw [show (((a1 + m : Nat) : Int) + 1 - a1).toNat = m + 1 from by omega, bRow, if_neg (by simp only [okB, Bool.and_eq_true]; exact fun h => not_of c1 h.1)]
            exact hTw
        · refine sk ?_
          refine sq ?_
          refine rg ?_
          iterate 3 (refine st (h := O) ?_)
          refine st (h := sdLN) ?_
          refine cl (h := by exact fun ι hV hl => hTo _ (a1 + m) (hv.le hl) (by omega) (by omega)) ?_
          have hcl4 : (judD l x a1 (a1 + m)).cls.toNat < 4 := by omega
          obtain ⟨ht1, ht2⟩ := hTb (a1 + m) (judD l x a1 (a1 + m)).cls.toNat (by omega) hbl hcl4
          have hBN : ∀ K, rdN F K ⟨tb, to + ((a1 + m : Nat) : Int).toNat * 8 + (judD l x a1 (a1 + m)).cls.toNat * 2, none⟩ 2 = some [.int .i64 (restD l t (a1 + m) (judD l x a1 (a1 + m)).cls.toNat).1, .int .i64 (restD l t (a1 + m) (judD l x a1 (a1 + m)).cls.toNat).2] := fun K => by
            simp only [rdN, lookN, Int.toNat_natCast, addA, ht1, ht2]
          have hrs : (0 ≤ (restD l t (a1 + m) (judD l x a1 (a1 + m)).cls.toNat).1 ↔ (¬ a1 + m < l.length - 1 ∨ (t (a1 + m + 1) (judD l x a1 (a1 + m)).cls.toNat).1 ≠ 0)) ∧ (-(223000000 * 1100) ≤ (restD l t (a1 + m) (judD l x a1 (a1 + m)).cls.toNat).2 ∧ (restD l t (a1 + m) (judD l x a1 (a1 + m)).cls.toNat).2 ≤ 223000000 * 1100) ∧ (restD l t (a1 + m) (judD l x a1 (a1 + m)).cls.toNat).2 = (if a1 + m < l.length - 1 then (t (a1 + m + 1) (judD l x a1 (a1 + m)).cls.toNat).2 else 0) := by
            unfold restD rfW
            by_cases h : a1 + m < l.length - 1
            · have htb := htk (a1 + m + 1) (judD l x a1 (a1 + m)).cls.toNat (by omega)
              have h1 := htb.lo
              have h2 := htb.cl
              have h3 := htb.ch
              rw [if_pos h, if_pos h]
              dsimp only
              refine ⟨?_, by omega, rfl⟩
              split
              · rename_i e; simp [e, h]
              · rename_i e; simp [e]; omega
            · rw [if_neg h, if_neg h]
              dsimp only
              exact ⟨by simp [h], by omega, rfl⟩
          generalize restD l t (a1 + m) (judD l x a1 (a1 + m)).cls.toNat = rs at *
          obtain ⟨rn, rc⟩ := rs
          dsimp only at hBN hrs
          obtain ⟨hrn, hrcb, hrc⟩ := hrs
          refine al ?_
          refine so ?_
          refine nl ?_
          refine sq ?_
          refine dr 8 [11, 9, 8, 6] [0, 1, 2, 3, 4, 5, 6, 1007, 1008] ?_
          iterate 2 (refine dt (hv := by exact O) ?_)
          refine dt (hv := by exact sdFA) ?_
          refine dt (hv := by exact sdL) ?_
          refine dt (hv := by exact (sdX (z := 8))) ?_
          refine dt (hv := by exact (sdXA (z := 2))) ?_
          refine dt (hv := by exact sdLN (hv := hBN _)) ?_
          refine dal (hkp := by first | exact Kept.all | exact Kept.k0 | exact Kept.kY | exact Kept.kYY | exact Kept.kY3) ?_
          refine dso (hkp := by first | exact Kept.all | exact Kept.k0 | exact Kept.kY | exact Kept.kYY | exact Kept.kY3) ?_
          refine dn ?_
          iterate 2 (refine sq ?_)
          refine rg ?_
          refine st (h := sdFA) ?_
          refine st (h := sdL) ?_
          refine st (h := O) ?_
          refine gB (fun g47 => ?_) (fun g47 => ?_)
          · refine sg (h := sdFA) ?_
            refine sg (h := sdL) ?_
            refine sg (h := O) ?_
            refine st (h := O) ?_
            refine nl ?_
            refine cD (fun c2 => ?_) (fun c2 => ?_)
            · have hok : okB l x t a1 (a1 + m) = true := by
                simp only [okB, Bool.and_eq_true, Bool.or_eq_true, Bool.not_eq_true', decide_eq_false_iff_not]
                exact ⟨of_not c1, g47, hrn.1 c2⟩
              have hb0' : ((a1 + m : Nat) : Int) ≠ 0 := by
                have := legal_pos hg (of_not c1)
                omega
              refine sq ?_
              refine rg ?_
              refine st (h := O) ?_
              refine nl ?_
              refine bl ?_
              refine J.loop2 (α := Nat) (β := Nat → Int) (fun c T2 => c ≤ 4 ∧ TW T2 (fun c' => if c' < c then updB l x t a1 (a1 + m) (bRow l x t a1 m) c' else bRow l x t a1 m c')) (fun c T2 => [(13, .int .i64 c)]) [(0, _), (1, _), (3, _), (6, _), (8, _), (9, _), (10, _), (11, _), (12, _)] (fun c T2 => [(9, { elem := 80, cs := gI T2 8, room := 8, flat := false })]) [(12, _), (11, _), (8, _), (6, _)] (fun c T2 => 4 - c) (0) (_) (by exact ⟨rfl, trivial⟩) (by exact ⟨rfl, rfl, rfl, rfl, rfl, rfl, rfl, rfl, rfl, trivial⟩) (by exact ⟨rfl, rfl, rfl, rfl, rfl, rfl, rfl, rfl, rfl, rfl, trivial⟩) ?_ ?_
              · exact ⟨by omega, hTw.cong fun c' _ => by rw [if_neg (by omega)]⟩
              · intro c T2 L1 K1 e1 e2 hI
                dsimp only [apV, apR, List.cons_append, List.nil_append] at e1 e2
                subst e1 e2
                obtain ⟨hc4, hT2⟩ := hI
                iterate 2 (refine sq ?_)
                refine rg ?_
                iterate 2 (refine st (h := O) ?_)
                refine nl ?_
                refine cD (fun c3 => ?_) (fun c3 => ?_)
                · have hc : c < 4 := by omega
                  have hac : T2 (0 + (c : Int).toNat * 2 + 0) = (rfW (bRow l x t a1 m c)).1 ∧ T2 (0 + (c : Int).toNat * 2 + 1) = (rfW (bRow l x t a1 m c)).2 := by
                    have := hT2 c hc
                    simp only [Nat.lt_irrefl, if_false] at this
                    simpa using this
                  have hbl0 := (hbk c).lo
                  refine sk ?_
                  refine sq ?_
                  refine bl ?_
                  refine sq ?_
                  refine rg ?_
                  iterate 3 (refine st (h := O) ?_)
                  refine gD (fun g58 => ?_) (fun g58 => ?_)
                  · obtain ⟨a', haN⟩ := Int.eq_ofNat_of_zero_le (show (0 : Int) ≤ a by omega)
                    obtain ⟨ga, hNa, hsa⟩ := hIt a' (by omega)
                    have hfa : flagA l a = flagB (at_ l a') := by rw [haN, flagA_nat]
                    iterate 2 (refine sg (h := O) ?_)
                    refine sg (h := (sdX (z := 11))) ?_
                    refine sg (h := sdLN (hv := hNa _ _ haN)) ?_
                    refine clg (h := by exact fun ι hV hl => rflag_C _ (at_ l a') _ (hsa.r' _)) ?_
                    iterate 2 (refine st (h := O) ?_)
                    refine nl ?_
                    refine sq ?_
                    refine dr 26 [9, 12, 11, 8, 6] [0, 1, 2, 3, 4, 5, 6, 7, 10, 11, 12, 13, 14, 15, 16, 17, 19, 22, 23, 1008, 1009, 1018, 1020, 21, 24, 25] ?_
                    refine dt (hv := by exact sdFA) ?_
                    refine dt (hv := by exact sdL) ?_
                    refine dt (hv := by exact sdFA) ?_
                    refine dt (hv := by exact sdL) ?_
                    iterate 2 (refine dt (hv := by exact O) ?_)
                    refine dt (hv := by exact (sdX (z := 11))) ?_
                    refine dt (hv := by exact sdLN (hv := hN2 _ _ rfl)) ?_
                    refine dt (hv := by exact O) ?_
                    refine dt (hv := by exact sdFA) ?_
                    refine dt (hv := by exact sdL) ?_
                    iterate 3 (refine dt (hv := by exact O) ?_)
                    refine dt (hv := by exact (sdX (z := 11))) ?_
                    refine dt (hv := by exact sdLN (hv := hN2 _ _ rfl)) ?_
                    refine dt (hv := by exact sdLN) ?_
                    refine dt (hv := by exact sdFA) ?_
                    refine dt (hv := by exact sdL) ?_
                    refine dcl (hkp := by first | exact Kept.all | exact Kept.k0 | exact Kept.kY | exact Kept.kYY | exact Kept.kY3) (h := by exact fun ι hV hl => rcost_C _ (at_ l (a1 + m)) _ (hsv.r' _)) ?_
                    refine dcl (hkp := by first | exact Kept.all | exact Kept.k0 | exact Kept.kY | exact Kept.kYY | exact Kept.kY3) (h := by exact fun ι hV hl => r23Line_C _ _ _ _) ?_
                    refine dcl (hkp := by first | exact Kept.all | exact Kept.k0 | exact Kept.kY | exact Kept.kYY | exact Kept.kY3) (h := by exact fun ι hV hl => rflag_C _ (at_ l (a1 + m)) _ (hsv.r' _)) ?_
                    refine dcl (hkp := by first | exact Kept.all | exact Kept.k0 | exact Kept.kY | exact Kept.kYY | exact Kept.kY3) (h := by exact fun ι hV hl => hMo _ _ _ _ _) ?_
                    have hcst : lineD line (judD l x a1 (a1 + m)).bad (costB (at_ l (a1 + m))) + moreD c (judD l x a1 (a1 + m)).cls (flagA l a) (flagB (at_ l (a1 + m))) x = demD l x (judD l x a1 (a1 + m)).bad (judD l x a1 (a1 + m)).cls c a (a1 + m : Nat) := by
                      rw [demD, hxl, costA_nat, flagA_nat]
                    have hdb := demD_bd l x (judD l x a1 (a1 + m)).bad (judD l x a1 (a1 + m)).cls c a (a1 + m : Nat)
                    rw [hfa] at hcst
                    have hlb := lineD_bd line (judD l x a1 (a1 + m)).bad (costB (at_ l (a1 + m)))
                    iterate 2 (refine dt (hv := by exact sdA) ?_)
                    refine dt (hv := by exact O) ?_
                    refine dn ?_
                    refine sq ?_
                    rw [hcst]
                    have hcs2 : demD l x (judD l x a1 (a1 + m)).bad (judD l x a1 (a1 + m)).cls c a (a1 + m : Nat) + rc = cstB l x t a1 (a1 + m) c := by
                      unfold cstB
                      rw [hrc, show (a1 : Int) - 1 = a from by omega]
                    rw [hcs2]
                    refine rg ?_
                    refine st (h := O) ?_
                    refine st (h := (sdXA (z := 2))) ?_
                    refine st (h := sdFA) ?_
                    refine st (h := (by first | exact sdLG | exact sdW)) ?_
                    iterate 2 (refine st (h := O) ?_)
                    refine gD (fun g95 => ?_) (fun g95 => ?_)
                    · have hz : (bRow l x t a1 m c).1 = 0 := by
                        rw [hac.1] at g95
                        unfold rfW at g95
                        by_cases e : (bRow l x t a1 m c).1 = 0
                        · exact e
                        · rw [if_neg e] at g95; dsimp only at g95; omega
                      have hu : updB l x t a1 (a1 + m) (bRow l x t a1 m) c = (((a1 + m : Nat) : Int), cstB l x t a1 (a1 + m) c) := by unfold updB; rw [if_pos (.inl hz)]
                      iterate 6 (refine sp ?_)
                      refine st (h := O) ?_
                      refine nl ?_
                      refine cT ?_
                      refine rg ?_
                      iterate 4 (refine st (h := O) ?_)
                      refine st (h := (sdXA (z := 2))) ?_
                      refine soGn (ys := [_, _]) ?_
                      refine nl ?_
                      refine bk ?_
                      refine rg ?_
                      refine st (h := O) ?_
                      refine st (h := sdA) ?_
                      refine st (h := O) ?_
                      refine nl ?_
                      refine bk2 (c + 1) (_) (by exact ⟨rfl, trivial⟩) (by exact ⟨rfl, rfl, rfl, rfl, rfl, rfl, rfl, rfl, rfl, trivial⟩) (by exact ⟨rfl, rfl, rfl, rfl, rfl, rfl, rfl, rfl, rfl, rfl, trivial⟩) ?_ ?_
                      · omega
                      · refine ⟨by omega, ?_⟩
                        refine hT2.upd hc (by omega) (by omega) ?_ hb0' (fun c' h1 h2 => ?_)
                        · rw [if_pos (by omega), hu]
                        · by_cases h : c' < c
                          · rw [if_pos (by omega), if_pos h]
                          · rw [if_neg (by omega), if_neg h]
                    · have hz : (bRow l x t a1 m c).1 ≠ 0 := fun e => g95 (by rw [hac.1]; unfold rfW; rw [if_pos e]; dsimp only; omega)
                      iterate 2 (refine sg (h := O) ?_)
                      refine sg (h := (sdXA (z := 2))) ?_
                      refine sg (h := sdFA) ?_
                      refine sg (h := (by first | exact sdLG | exact sdW)) ?_
                      refine sg (h := O) ?_
                      refine st (h := O) ?_
                      refine nl ?_
                      refine cD (fun c4 => ?_) (fun c4 => ?_)
                      · have hu : updB l x t a1 (a1 + m) (bRow l x t a1 m) c = (((a1 + m : Nat) : Int), cstB l x t a1 (a1 + m) c) := by unfold updB; rw [if_pos (.inr (by have := c4; rw [hac.2] at this; exact this))]
                        refine rg ?_
                        iterate 4 (refine st (h := O) ?_)
                        refine st (h := (sdXA (z := 2))) ?_
                        refine soGn (ys := [_, _]) ?_
                        refine nl ?_
                        refine bk ?_
                        refine rg ?_
                        refine st (h := O) ?_
                        refine st (h := sdA) ?_
                        refine st (h := O) ?_
                        refine nl ?_
                        refine bk2 (c + 1) (_) (by exact ⟨rfl, trivial⟩) (by exact ⟨rfl, rfl, rfl, rfl, rfl, rfl, rfl, rfl, rfl, trivial⟩) (by exact ⟨rfl, rfl, rfl, rfl, rfl, rfl, rfl, rfl, rfl, rfl, trivial⟩) ?_ ?_
                        · omega
                        · refine ⟨by omega, ?_⟩
                          refine hT2.upd hc (by omega) (by omega) ?_ hb0' (fun c' h1 h2 => ?_)
                          · rw [if_pos (by omega), hu]
                          · by_cases h : c' < c
                            · rw [if_pos (by omega), if_pos h]
                            · rw [if_neg (by omega), if_neg h]
                      · refine sk ?_
                        refine bk ?_
                        refine rg ?_
                        refine st (h := O) ?_
                        refine st (h := sdA) ?_
                        refine st (h := O) ?_
                        refine nl ?_
                        refine bk2 (c + 1) (_) (by exact ⟨rfl, trivial⟩) (by exact ⟨rfl, rfl, rfl, rfl, rfl, rfl, rfl, rfl, rfl, trivial⟩) (by exact ⟨rfl, rfl, rfl, rfl, rfl, rfl, rfl, rfl, rfl, rfl, trivial⟩) ?_ ?_
                        · omega
                        · refine ⟨by omega, ?_⟩
                          have hu : updB l x t a1 (a1 + m) (bRow l x t a1 m) c = bRow l x t a1 m c := by
                            unfold updB
                            rw [if_neg (by rintro (h | h); · exact hz h
                                           · exact c4 (by rw [hac.2]; exact h))]
                          refine hT2.cong fun c' h1 => ?_
                          by_cases h2 : c' = c
                          · subst h2; rw [if_pos (by omega), if_neg (by omega), hu]
                          · by_cases h : c' < c
                            · rw [if_pos (by omega), if_pos h]
                            · rw [if_neg (by omega), if_neg h]
                  · have hfa : flagA l a = false := by simp only [flagA, Bool.and_eq_false_iff, decide_eq_false_iff_not]; exact .inl (by omega)
                    iterate 5 (refine sp ?_)
                    iterate 2 (refine st (h := O) ?_)
                    refine nl ?_
                    refine sq ?_
                    refine dr 26 [9, 12, 11, 8, 6] [0, 1, 2, 3, 4, 5, 6, 7, 10, 11, 12, 13, 14, 15, 16, 17, 19, 22, 23, 1008, 1009, 1018, 1020, 21, 24, 25] ?_
                    refine dt (hv := by exact sdFA) ?_
                    refine dt (hv := by exact sdL) ?_
                    refine dt (hv := by exact sdFA) ?_
                    refine dt (hv := by exact sdL) ?_
                    iterate 2 (refine dt (hv := by exact O) ?_)
                    refine dt (hv := by exact (sdX (z := 11))) ?_
                    refine dt (hv := by exact sdLN (hv := hN2 _ _ rfl)) ?_
                    refine dt (hv := by exact O) ?_
                    refine dt (hv := by exact sdFA) ?_
                    refine dt (hv := by exact sdL) ?_
                    iterate 3 (refine dt (hv := by exact O) ?_)
                    refine dt (hv := by exact (sdX (z := 11))) ?_
                    refine dt (hv := by exact sdLN (hv := hN2 _ _ rfl)) ?_
                    refine dt (hv := by exact sdLN) ?_
                    refine dt (hv := by exact sdFA) ?_
                    refine dt (hv := by exact sdL) ?_
                    refine dcl (hkp := by first | exact Kept.all | exact Kept.k0 | exact Kept.kY | exact Kept.kYY | exact Kept.kY3) (h := by exact fun ι hV hl => rcost_C _ (at_ l (a1 + m)) _ (hsv.r' _)) ?_
                    refine dcl (hkp := by first | exact Kept.all | exact Kept.k0 | exact Kept.kY | exact Kept.kYY | exact Kept.kY3) (h := by exact fun ι hV hl => r23Line_C _ _ _ _) ?_
                    refine dcl (hkp := by first | exact Kept.all | exact Kept.k0 | exact Kept.kY | exact Kept.kYY | exact Kept.kY3) (h := by exact fun ι hV hl => rflag_C _ (at_ l (a1 + m)) _ (hsv.r' _)) ?_
                    refine dcl (hkp := by first | exact Kept.all | exact Kept.k0 | exact Kept.kY | exact Kept.kYY | exact Kept.kY3) (h := by exact fun ι hV hl => hMo _ _ _ _ _) ?_
                    have hcst : lineD line (judD l x a1 (a1 + m)).bad (costB (at_ l (a1 + m))) + moreD c (judD l x a1 (a1 + m)).cls (flagA l a) (flagB (at_ l (a1 + m))) x = demD l x (judD l x a1 (a1 + m)).bad (judD l x a1 (a1 + m)).cls c a (a1 + m : Nat) := by
                      rw [demD, hxl, costA_nat, flagA_nat]
                    have hdb := demD_bd l x (judD l x a1 (a1 + m)).bad (judD l x a1 (a1 + m)).cls c a (a1 + m : Nat)
                    rw [hfa] at hcst
                    have hlb := lineD_bd line (judD l x a1 (a1 + m)).bad (costB (at_ l (a1 + m)))
                    iterate 2 (refine dt (hv := by exact sdA) ?_)
                    refine dt (hv := by exact O) ?_
                    refine dn ?_
                    refine sq ?_
                    rw [hcst]
                    have hcs2 : demD l x (judD l x a1 (a1 + m)).bad (judD l x a1 (a1 + m)).cls c a (a1 + m : Nat) + rc = cstB l x t a1 (a1 + m) c := by
                      unfold cstB
                      rw [hrc, show (a1 : Int) - 1 = a from by omega]
                    rw [hcs2]
                    refine rg ?_
                    refine st (h := O) ?_
                    refine st (h := (sdXA (z := 2))) ?_
                    refine st (h := sdFA) ?_
                    refine st (h := (by first | exact sdLG | exact sdW)) ?_
                    iterate 2 (refine st (h := O) ?_)
                    refine gD (fun g95 => ?_) (fun g95 => ?_)
                    · have hz : (bRow l x t a1 m c).1 = 0 := by
                        rw [hac.1] at g95
                        unfold rfW at g95
                        by_cases e : (bRow l x t a1 m c).1 = 0
                        · exact e
                        · rw [if_neg e] at g95; dsimp only at g95; omega
                      have hu : updB l x t a1 (a1 + m) (bRow l x t a1 m) c = (((a1 + m : Nat) : Int), cstB l x t a1 (a1 + m) c) := by unfold updB; rw [if_pos (.inl hz)]
                      iterate 6 (refine sp ?_)
                      refine st (h := O) ?_
                      refine nl ?_
                      refine cT ?_
                      refine rg ?_
                      iterate 4 (refine st (h := O) ?_)
                      refine st (h := (sdXA (z := 2))) ?_
                      refine soGn (ys := [_, _]) ?_
                      refine nl ?_
                      refine bk ?_
                      refine rg ?_
                      refine st (h := O) ?_
                      refine st (h := sdA) ?_
                      refine st (h := O) ?_
                      refine nl ?_
                      refine bk2 (c + 1) (_) (by exact ⟨rfl, trivial⟩) (by exact ⟨rfl, rfl, rfl, rfl, rfl, rfl, rfl, rfl, rfl, trivial⟩) (by exact ⟨rfl, rfl, rfl, rfl, rfl, rfl, rfl, rfl, rfl, rfl, trivial⟩) ?_ ?_
                      · omega
                      · refine ⟨by omega, ?_⟩
                        refine hT2.upd hc (by omega) (by omega) ?_ hb0' (fun c' h1 h2 => ?_)
                        · rw [if_pos (by omega), hu]
                        · by_cases h : c' < c
                          · rw [if_pos (by omega), if_pos h]
                          · rw [if_neg (by omega), if_neg h]
                    · have hz : (bRow l x t a1 m c).1 ≠ 0 := fun e => g95 (by rw [hac.1]; unfold rfW; rw [if_pos e]; dsimp only; omega)
                      iterate 2 (refine sg (h := O) ?_)
                      refine sg (h := (sdXA (z := 2))) ?_
                      refine sg (h := sdFA) ?_
                      refine sg (h := (by first | exact sdLG | exact sdW)) ?_
                      refine sg (h := O) ?_
                      refine st (h := O) ?_
                      refine nl ?_
                      refine cD (fun c4 => ?_) (fun c4 => ?_)
                      · have hu : updB l x t a1 (a1 + m) (bRow l x t a1 m) c = (((a1 + m : Nat) : Int), cstB l x t a1 (a1 + m) c) := by unfold updB; rw [if_pos (.inr (by have := c4; rw [hac.2] at this; exact this))]
                        refine rg ?_
                        iterate 4 (refine st (h := O) ?_)
                        refine st (h := (sdXA (z := 2))) ?_
                        refine soGn (ys := [_, _]) ?_
                        refine nl ?_
                        refine bk ?_
                        refine rg ?_
                        refine st (h := O) ?_
                        refine st (h := sdA) ?_
                        refine st (h := O) ?_
                        refine nl ?_
                        refine bk2 (c + 1) (_) (by exact ⟨rfl, trivial⟩) (by exact ⟨rfl, rfl, rfl, rfl, rfl, rfl, rfl, rfl, rfl, trivial⟩) (by exact ⟨rfl, rfl, rfl, rfl, rfl, rfl, rfl, rfl, rfl, rfl, trivial⟩) ?_ ?_
                        · omega
                        · refine ⟨by omega, ?_⟩
                          refine hT2.upd hc (by omega) (by omega) ?_ hb0' (fun c' h1 h2 => ?_)
                          · rw [if_pos (by omega), hu]
                          · by_cases h : c' < c
                            · rw [if_pos (by omega), if_pos h]
                            · rw [if_neg (by omega), if_neg h]
                      · refine sk ?_
                        refine bk ?_
                        refine rg ?_
                        refine st (h := O) ?_
                        refine st (h := sdA) ?_
                        refine st (h := O) ?_
                        refine nl ?_
                        refine bk2 (c + 1) (_) (by exact ⟨rfl, trivial⟩) (by exact ⟨rfl, rfl, rfl, rfl, rfl, rfl, rfl, rfl, rfl, trivial⟩) (by exact ⟨rfl, rfl, rfl, rfl, rfl, rfl, rfl, rfl, rfl, rfl, trivial⟩) ?_ ?_
                        · omega
                        · refine ⟨by omega, ?_⟩
                          have hu : updB l x t a1 (a1 + m) (bRow l x t a1 m) c = bRow l x t a1 m c := by
                            unfold updB
                            rw [if_neg (by rintro (h | h); · exact hz h
                                           · exact c4 (by rw [hac.2]; exact h))]
                          refine hT2.cong fun c' h1 => ?_
                          by_cases h2 : c' = c
                          · subst h2; rw [if_pos (by omega), if_neg (by omega), hu]
                          · by_cases h : c' < c
                            · rw [if_pos (by omega), if_pos h]
                            · rw [if_neg (by omega), if_neg h]
                · obtain rfl : c = 4 := by omega
                  have hT1 : TW T2 (bRow l x t a1 (m + 1)) := by
                    rw [bRow, if_pos hok]
                    exact hT2.cong fun c' hc' => (by rw [if_pos hc'])
                  refine ex ?_
                  refine sq ?_
                  refine rg ?_
                  iterate 2 (refine st (h := O) ?_)
                  refine st (h := (sdX (z := 11))) ?_
                  refine st (h := sdLN (hv := hN2 _ _ rfl)) ?_
                  refine cl (h := by exact fun ι hV hl => rforced_C _ (at_ l (a1 + m)) _ (hsv.r' _)) ?_
                  refine nl ?_
                  refine cB (fun c5 => ?_) (fun c5 => ?_)
                  · have hfe : m + 1 = foA l a1 + 1 - a1 := by have := hfle c5; omega
                    refine ex ?_
                    refine sq ?_
                    refine rg ?_
                    refine st (h := sdLN) ?_
                    refine so ?_
                    refine nl ?_
                    refine rt ⟨?_, rfl⟩
                    rw [← hfe, ← hT1.row]
                    rfl
                  · refine sk ?_
                    refine bk ?_
                    refine rg ?_
                    refine st (h := O) ?_
                    refine st (h := sdA) ?_
                    refine st (h := O) ?_
                    refine nl ?_
                    refine bk2 (_) (_) (by exact ⟨rfl, trivial⟩) (by exact ⟨rfl, rfl, rfl, rfl, rfl, rfl, trivial⟩) (by exact ⟨rfl, rfl, rfl, rfl, rfl, rfl, trivial⟩) ?_ ?_
                    · omega
                    · have hnf : a1 + m ≠ foA l a1 := fun h => by rw [← h] at fl3; rw [fl3] at c5; cases c5
                      refine ⟨by omega, by omega, ?_⟩
                      rw [show (((a1 + m : Nat) : Int) + 1 - a1).toNat = m + 1 from by omega]
                      exact hT1
            · have hT1 : TW T (bRow l x t a1 (m + 1)) := by
                rw [bRow, if_neg (by
                  simp only [okB, Bool.and_eq_true, Bool.or_eq_true, Bool.not_eq_true', decide_eq_false_iff_not]
                  exact fun h => c2 (hrn.2 h.2.2))]
                exact hTw
              refine sk ?_
              refine sq ?_
              refine rg ?_
              iterate 2 (refine st (h := O) ?_)
              refine st (h := (sdX (z := 11))) ?_
              refine st (h := sdLN (hv := hN2 _ _ rfl)) ?_
              refine cl (h := by exact fun ι hV hl => rforced_C _ (at_ l (a1 + m)) _ (hsv.r' _)) ?_
              refine nl ?_
              refine cB (fun c5 => ?_) (fun c5 => ?_)
              · have hfe : m + 1 = foA l a1 + 1 - a1 := by have := hfle c5; omega
                refine ex ?_
                refine sq ?_
                refine rg ?_
                refine st (h := sdLN) ?_
                refine so ?_
                refine nl ?_
                refine rt ⟨?_, rfl⟩
                rw [← hfe, ← hT1.row]
                rfl
              · refine sk ?_
                refine bk ?_
                refine rg ?_
                refine st (h := O) ?_
                refine st (h := sdA) ?_
                refine st (h := O) ?_
                refine nl ?_
                refine bk2 (_) (_) (by exact ⟨rfl, trivial⟩) (by exact ⟨rfl, rfl, rfl, rfl, rfl, rfl, trivial⟩) (by exact ⟨rfl, rfl, rfl, rfl, rfl, rfl, trivial⟩) ?_ ?_
                · omega
                · have hnf : a1 + m ≠ foA l a1 := fun h => by rw [← h] at fl3; rw [fl3] at c5; cases c5
                  refine ⟨by omega, by omega, ?_⟩
                  rw [show (((a1 + m : Nat) : Int) + 1 - a1).toNat = m + 1 from by omega]
                  exact hT1
          · have hT1 : TW T (bRow l x t a1 (m + 1)) := by
              rw [bRow, if_neg (by simp only [okB, Bool.and_eq_true]; exact fun h => by rw [g47] at h; exact absurd h.2.1 (by decide))]
              exact hTw
            iterate 3 (refine sp ?_)
            refine st (h := O) ?_
            refine nl ?_
            refine cF ?_
            refine sk ?_
            refine sq ?_
            refine rg ?_
            iterate 2 (refine st (h := O) ?_)
            refine st (h := (sdX (z := 11))) ?_
            refine st (h := sdLN (hv := hN2 _ _ rfl)) ?_
            refine cl (h := by exact fun ι hV hl => rforced_C _ (at_ l (a1 + m)) _ (hsv.r' _)) ?_
            refine nl ?_
            refine cB (fun c5 => ?_) (fun c5 => ?_)
            · have hfe : m + 1 = foA l a1 + 1 - a1 := by have := hfle c5; omega
              refine ex ?_
              refine sq ?_
              refine rg ?_
              refine st (h := sdLN) ?_
              refine so ?_
              refine nl ?_
              refine rt ⟨?_, rfl⟩
              rw [← hfe, ← hT1.row]
              rfl
            · refine sk ?_
              refine bk ?_
              refine rg ?_
              refine st (h := O) ?_
              refine st (h := sdA) ?_
              refine st (h := O) ?_
              refine nl ?_
              refine bk2 (_) (_) (by exact ⟨rfl, trivial⟩) (by exact ⟨rfl, rfl, rfl, rfl, rfl, rfl, trivial⟩) (by exact ⟨rfl, rfl, rfl, rfl, rfl, rfl, trivial⟩) ?_ ?_
              · omega
              · have hnf : a1 + m ≠ foA l a1 := fun h => by rw [← h] at fl3; rw [fl3] at c5; cases c5
                refine ⟨by omega, by omega, ?_⟩
                rw [show (((a1 + m : Nat) : Int) + 1 - a1).toNat = m + 1 from by omega]
                exact hT1
      · exfalso; omega
  · simp at ha1

end Go.Proofs.Ytbeblgjibfoanaa.Am
namespace Go.Proofs.Ytbeblgjibfoanaa.Am
set_option linter.unusedSimpArgs false
set_option linter.unusedVariables false
set_option maxRecDepth 100000
set_option maxHeartbeats 4000000
open Go Go.RowKit
theorem bRow_cong {l : List Item} {x : Par} {t t' : Nat → Nat → Int × Int} {a1 : Nat} (h : ∀ b, a1 ≤ b → t (b + 1) = t' (b + 1)) : ∀ m, bRow l x t a1 m = bRow l x t' a1 m
  | 0 => rfl
  | m + 1 => by
    have e1 : okB l x t a1 (a1 + m) = okB l x t' a1 (a1 + m) := by simp only [okB, h (a1 + m) (by omega)]
    have e2 : updB l x t a1 (a1 + m) = updB l x t' a1 (a1 + m) := by
      funext acc c
      have hc : cstB l x t a1 (a1 + m) c = cstB l x t' a1 (a1 + m) c := by simp only [cstB, h (a1 + m) (by omega)]
      unfold updB
      rw [hc]
    simp only [bRow, e1, e2, bRow_cong h m]
/-- the reference's row of the break a -/
def rsA (l : List Item) (x : Par) (a : Int) (c : Nat) : Int × Int := if a = (l.length : Int) - 1 then ((l.length : Int), 0) else rfW (tabD l x l.length (a + 1).toNat c)
theorem rsA_rest {l : List Item} {x : Par} {b c : Nat} (hb : b < l.length) : rsA l x b c = restD l (tabD l x l.length) b c := by
  unfold rsA restD
  by_cases h : b < l.length - 1
  · rw [if_neg (by omega), if_pos h, show ((b : Int) + 1).toNat = b + 1 from by omega]
  · rw [if_pos (by omega), if_neg h]
theorem rsA_row {l : List Item} (hg : goodL l = true) {x : Par} {a : Int} {a1 : Nat} (ha : a + 1 = a1) (ha1 : a1 < l.length) (hl : a1 = 0 ∨ legalB l a = true) (c : Nat) : rsA l x a c = rfW (bRow l x (tabD l x l.length) a1 (foA l a1 + 1 - a1) c) := by
  unfold rsA
  rw [if_neg (by omega), ha, Int.toNat_natCast, tab_row hg ha1 (by rw [show (a1 : Int) - 1 = a from by omega]; exact hl)]
  rw [bRow_cong (t := tabD l x (l.length - 1 - a1)) (t' := tabD l x l.length) (fun b hb => tab_behind hb)]
theorem rsA_no {l : List Item} {x : Par} {a : Int} {a1 : Nat} (ha : a + 1 = a1) (ha1 : a1 < l.length) (hl : ¬ (a1 = 0 ∨ legalB l a = true)) (c : Nat) : rsA l x a c = (-1, 0) := by
  unfold rsA
  rw [if_neg (by omega), ha, Int.toNat_natCast, tabD_stable ha1 (by omega), rowD, if_neg (by rw [show (a1 : Int) - 1 = a from by omega]; exact hl)]
  rfl
/-- the table, where it lies: rows behind a -/
def TR (l : List Item) (x : Par) (T : Nat → Int) (a : Int) : Prop := (∀ b c : Nat, a < b → b < l.length → c < 4 → T (b * 8 + c * 2) = (rsA l x b c).1 ∧ T (b * 8 + c * 2 + 1) = (rsA l x b c).2) ∧ (a < -1 → ∀ c, c < 4 → T (l.length * 8 + c * 2) = (rsA l x (-1) c).1 ∧ T (l.length * 8 + c * 2 + 1) = (rsA l x (-1) c).2)
theorem setIs_at : ∀ (ys : List Int) (T : Nat → Int) (o k : Nat), setIs T o ys k = if o ≤ k ∧ k < o + ys.length then ys.getD (k - o) 0 else T k
  | [], T, o, k => by simp only [setIs, List.length_nil]; rw [if_neg (by omega)]
  | y :: ys, T, o, k => by
    simp only [setIs, List.length_cons]
    rw [setIs_at ys]
    by_cases h : o + 1 ≤ k ∧ k < o + 1 + ys.length
    · rw [if_pos h, if_pos (by omega), show k - o = (k - (o + 1)) + 1 from by omega]; rfl
    · rw [if_neg h]
      unfold setI
      by_cases hk : k = o
      · subst hk; rw [if_pos rfl, if_pos (by omega), Nat.sub_self]; rfl
      · rw [if_neg hk, if_neg (by omega)]
theorem TR.put {l : List Item} {x : Par} {T W : Nat → Int} {a : Int} {b1 : Nat} (h : TR l x T a) (hb : (0 ≤ a ∧ a = (b1 : Int)) ∨ (a = -1 ∧ b1 = l.length)) (hW : ∀ c, c < 4 → W (c * 2) = (rsA l x a c).1 ∧ W (c * 2 + 1) = (rsA l x a c).2) {o : Nat} (ho : o = b1 * 8) : TR l x (setIs T o [W 0, W 1, W 2, W 3, W 4, W 5, W 6, W 7]) (a - 1) := by
  subst ho
  have hw : ∀ k, k < 8 → [W 0, W 1, W 2, W 3, W 4, W 5, W 6, W 7].getD k 0 = W k := fun k hk => by
    match k, hk with
    | 0, _ | 1, _ | 2, _ | 3, _ | 4, _ | 5, _ | 6, _ | 7, _ => rfl
  constructor
  · intro b c hab hbl hc
    rw [setIs_at, setIs_at]
    by_cases hbb : b = b1
    · subst hbb
      have ha : a = b := by rcases hb with hb | hb <;> omega
      subst ha
      rw [if_pos (by simp; omega), if_pos (by simp; omega), hw _ (by omega), hw _ (by omega), show b * 8 + c * 2 - b * 8 = c * 2 from by omega, show b * 8 + c * 2 + 1 - b * 8 = c * 2 + 1 from by omega]
      exact hW c hc
    · rw [if_neg (by simp; omega), if_neg (by simp; omega)]
      exact h.1 b c (by rcases hb with hb | hb <;> omega) hbl hc
  · intro ha c hc
    rcases hb with hb | ⟨rfl, rfl⟩
    · omega
    · rw [setIs_at, setIs_at, if_pos (by simp; omega), if_pos (by simp; omega), hw _ (by omega), hw _ (by omega), show l.length * 8 + c * 2 - l.length * 8 = c * 2 from by omega, show l.length * 8 + c * 2 + 1 - l.length * 8 = c * 2 + 1 from by omega]
      exact hW c hc
theorem TR.push {l : List Item} {x : Par} {T : Nat → Int} {a : Int} {a1 t : Nat} {ι : Nat → Nat} {K : Own} {F : Mem} {r : Row} (h : TR l x T a) (ha : a + 1 = a1) (hV : Val ι K F) (hr : K.lookup t = some r) (hcs : r.cs = gI T ((l.length + 1) * 8)) (b c : Nat) (h1 : a1 ≤ b) (h2 : b < l.length) (h3 : c < 4) :
    look (push ι K F) ⟨ι t, 0 + b * 8 + c * 2, none⟩ = some (.int .i64 (restD l (tabD l x l.length) b c).1) ∧ look (push ι K F) ⟨ι t, 0 + b * 8 + c * 2 + 1, none⟩ = some (.int .i64 (restD l (tabD l x l.length) b c).2) := by
  have e := h.1 b c (by omega) h2 h3
  rw [rsA_rest h2] at e
  rw [Nat.zero_add]
  refine ⟨(hV.look hr (v := .int .i64 (T (b * 8 + c * 2))) (by rw [hcs]; exact gI_get (by omega))).trans ?_, (hV.look hr (v := .int .i64 (T (b * 8 + c * 2 + 1))) (by rw [hcs]; exact gI_get (by omega))).trans ?_⟩
  · rw [e.1]; rfl
  · rw [e.2]; rfl
theorem R24Best_C (F : Mem) (v : Value) (l : List Item) (x : Par) (hv : RItems F v l) : C Try.prog 16 [v, x.v] F (fun u Y => ∃ w, u = .tuple #[w, .int .i64 (bestD l x).2.1, .bool (bestD l x).2.2] ∧ SlV w ∧ ∀ G, Rd G Y → RInts G w (bestD l x).1) := by
  have hno : ¬ (goodL l = true ∧ x.good = true ∧ (tabD l x l.length 0 1).1 ≠ 0) → bestD l x = ([], 0, false) := fun h => by simp only [bestD]; rw [if_neg h]
  have hye : (goodL l = true ∧ x.good = true ∧ (tabD l x l.length 0 1).1 ≠ 0) → bestD l x = (pathB l x (tabD l x l.length) l.length 0 1, (tabD l x l.length 0 1).2, true) := fun h => by simp only [bestD]; rw [if_pos h]
  obtain ⟨xw, tol, line, twice, odd⟩ := x
  generalize hx : (⟨xw, tol, line, twice, odd⟩ : Par) = x at *
  have hxv : x.v = .agg #[.int .i64 xw, .int .i64 tol, .int .i64 line, .int .i64 twice, .int .i64 odd] := by rw [← hx]; rfl
  have hGd : ∀ G : Mem, C0 Try.prog 35 [.agg #[.int .i64 xw, .int .i64 tol, .int .i64 line, .int .i64 twice, .int .i64 odd]] G (.bool x.good) := fun G => by rw [← hxv]; exact r23Good_C G x
  have hFr : ∀ (G : Mem) (w : Value) (a : Int) (a1 tb to tc : Nat) (t : Nat → Nat → Int × Int), RItems G w l → goodL l = true → x.good = true → a + 1 = a1 → a1 < l.length → (∀ b c, a1 ≤ b → b < l.length → c < 4 → look G ⟨tb, to + b * 8 + c * 2, none⟩ = some (.int .i64 (restD l t b c).1) ∧ look G ⟨tb, to + b * 8 + c * 2 + 1, none⟩ = some (.int .i64 (restD l t b c).2)) → (∀ i c, i < l.length → TabOk l i (t i c)) → C0 Try.prog 42 [w, .int .i64 a, .agg #[.int .i64 xw, .int .i64 tol, .int .i64 line, .int .i64 twice, .int .i64 odd], .slice (some ⟨tb, to, none⟩) (l.length + 1) tc] G (.agg ⟨ivs (rowL (bRow l x t a1 (foA l a1 + 1 - a1)))⟩) := fun G w a a1 tb to tc t h1 h2 h3 h4 h5 h6 h7 => by
    rw [← hxv]; exact from_C G w l a a1 x tb to tc t h1 h2 h3 h4 h5 h6 h7
  have hTo : ∀ (G : Mem) (w : Value) (a : Int) (a1 b : Nat), RItems G w l → goodL l = true → x.good = true → a + 1 = a1 → a1 ≤ b → b < l.length → (judD l x a1 b).fits = true → C0 Try.prog 43 [w, .int .i64 a, .int .i64 b, .agg #[.int .i64 xw, .int .i64 tol, .int .i64 line, .int .i64 twice, .int .i64 odd]] G (judgV (judD l x a1 b)) := fun G w a a1 b h1 h2 h3 h4 h5 h6 h7 => by
    have := told24_C G w l a a1 b x h1 h2 h3 h4 h5 h6
    rw [hxv, toldD, if_pos (judD_foA h7)] at this
    exact this
  rw [hxv]
  rcases hv.forms with ⟨vb, vo, vc, rfl⟩ | ⟨rfl, rfl⟩
  ·
    refine C.go hT Try.func16 Try.ntmps16 ?_
    refine sq ?_
    refine rg ?_
    refine bx ?_
    iterate 3 (refine st (h := O) ?_)
    refine nl ?_
    iterate 2 (refine sq ?_)
    refine rg ?_
    refine st (h := O) ?_
    refine cl (h := by exact fun ι hV hl => RGood_C _ _ l (hv.le hl)) ?_
    iterate 2 (refine st (h := O) ?_)
    refine gB (fun g20 => ?_) (fun g20 => ?_)
    · refine sp ?_
      iterate 2 (refine sp ?_)
      refine st (h := O) ?_
      refine nl ?_
      refine cT ?_
      refine sq ?_
      refine rg ?_
      iterate 3 (refine st (h := O) ?_)
      refine nl ?_
      refine rt ⟨_, ?_, .inr ⟨0, 0, rfl⟩, fun G hG => ?_⟩
      · rw [hno (fun h => not_of g20 h.1)]
      · rw [hno (fun h => not_of g20 h.1)]; exact .inr ⟨rfl, rfl⟩
    · refine sg (h := sdLN) ?_
      refine clg (h := by exact fun ι hV hl => hGd _) ?_
      refine sg (h := O) ?_
      refine st (h := O) ?_
      refine nl ?_
      refine cB (fun c0 => ?_) (fun c0 => ?_)
      · refine sq ?_
        refine rg ?_
        iterate 3 (refine st (h := O) ?_)
        refine nl ?_
        refine rt ⟨_, ?_, .inr ⟨0, 0, rfl⟩, fun G hG => ?_⟩
        · rw [hno (fun h => not_of c0 h.2.1)]
        · rw [hno (fun h => not_of c0 h.2.1)]; exact .inr ⟨rfl, rfl⟩
      · have hgl := of_not g20
        have hgx := of_not c0
        have hlen := good_len hgl
        refine sk ?_
        refine sq ?_
        refine rg ?_
        iterate 3 (refine st (h := O) ?_)
        refine nl ?_
        refine sq ?_
        refine rg ?_
        refine st (h := O) ?_
        refine st (h := sdA) ?_
        refine mk ?_
        rw [zer_gIn (s := 8)]
        rotate_left
        · rfl
        rw [show ((l.length : Int) + 1).toNat * 8 = (l.length + 1) * 8 from by omega, show ((l.length : Int) + 1).toNat = l.length + 1 from by omega]
        refine st (h := O) ?_
        refine nl ?_
        iterate 2 (refine sq ?_)
        refine rg ?_
        refine st (h := O) ?_
        refine st (h := sdS) ?_
        refine st (h := O) ?_
        refine nl ?_
        refine bl ?_
        refine J.loop2 (α := Int) (β := Nat → Int) (fun a T => -2 ≤ a ∧ a < l.length ∧ TR l x T a) (fun a T => [(9, .int .i64 a)]) [(0, _), (3, _), (7, _), (8, _)] (fun a T => [(29, { elem := 80, cs := gI T ((l.length + 1) * 8), room := (l.length + 1) * 8, flat := true })]) [(3, _)] (fun a T => (a + 2).toNat) (_) (_) (by exact ⟨rfl, trivial⟩) (by exact ⟨rfl, rfl, rfl, rfl, trivial⟩) (by exact ⟨rfl, rfl, rfl, rfl, trivial⟩) ?_ ?_
        · exact ⟨by omega, by omega, fun b c h1 h2 _ => by omega, fun h => by omega⟩
        · intro a T L1 K1 e1 e2 hI
          dsimp only [apV, apR, List.cons_append, List.nil_append] at e1 e2
          subst e1 e2
          obtain ⟨ha, hal, hTr⟩ := hI
          iterate 2 (refine sq ?_)
          refine rg ?_
          iterate 2 (refine st (h := O) ?_)
          refine nl ?_
          refine cD (fun c1 => ?_) (fun c1 => ?_)
          · obtain ⟨a1, ha1⟩ := Int.eq_ofNat_of_zero_le (show (0 : Int) ≤ a + 1 by omega)
            have htk : ∀ i c, i < l.length → TabOk l i (tabD l x l.length i c) := fun i c h => tabD_ok hgl l.length i c h
            refine sk ?_
            refine sq ?_
            refine bl ?_
            refine sq ?_
            refine rg ?_
            iterate 5 (refine st (h := O) ?_)
            refine al ?_
            refine so ?_
            refine nl ?_
            iterate 2 (refine sq ?_)
            refine rg ?_
            iterate 2 (refine st (h := O) ?_)
            refine st (h := sdS) ?_
            refine st (h := O) ?_
            refine nl ?_
            refine J.cut1 (α := Nat → Int) (fun W => ∀ c, c < 4 → W (c * 2) = (rsA l x a c).1 ∧ W (c * 2 + 1) = (rsA l x a c).2) (fun W => []) [(0, _), (3, _), (7, _), (8, _), (9, _), (10, _)] (fun W => [(10, { elem := 80, cs := gI W 8, room := 8, flat := false })]) [(29, _), (3, _)] (by exact ⟨rfl, rfl, rfl, rfl, rfl, rfl, trivial⟩) (by exact ⟨rfl, rfl, rfl, rfl, trivial⟩) ?_ ?_
            · refine cD (fun c2 => ?_) (fun c2 => ?_)
              · refine rg ?_
                iterate 9 (refine st (h := O) ?_)
                refine so ?_
                refine nl ?_
                refine ck1 (fun k => if k % 2 = 0 then (l.length : Int) else 0) (by exact trivial) (by exact ⟨rfl, rfl, rfl, rfl, rfl, rfl, trivial⟩) (by exact ⟨rfl, rfl, rfl, rfl, rfl, rfl, trivial⟩) ?_
                intro c hc
                have e1 : c * 2 % 2 = 0 := by omega
                have e2 : ¬ (c * 2 + 1) % 2 = 0 := by omega
                unfold rsA
                rw [if_pos (by omega)]
                simp [e1, e2]
              · refine sq ?_
                refine rg ?_
                iterate 3 (refine st (h := O) ?_)
                refine gD (fun g56 => ?_) (fun g56 => ?_)
                · refine sp ?_
                  iterate 2 (refine sp ?_)
                  refine st (h := O) ?_
                  refine nl ?_
                  refine cT ?_
                  refine rg ?_
                  iterate 2 (refine st (h := O) ?_)
                  refine st (h := sdLN) ?_
                  refine st (h := O) ?_
                  refine cl (h := by exact fun ι hV hl => hFr _ _ a a1 _ _ _ (tabD l x l.length) (hv.le hl) hgl hgx ha1 (by omega) (hTr.push ha1 hV (t := 29) rfl rfl) htk) ?_
                  refine so ?_
                  refine nl ?_
                  refine ck1 (fun k => (rowL (bRow l x (tabD l x l.length) a1 (foA l a1 + 1 - a1))).getD k 0) (by exact trivial) (by exact ⟨rfl, rfl, rfl, rfl, rfl, rfl, trivial⟩) (by exact ⟨rfl, rfl, rfl, rfl, rfl, rfl, trivial⟩) ?_
                  intro c hc
                  rw [rsA_row hgl ha1 (by omega) (.inl (by omega))]
                  match c, hc with
                  | 0, _ | 1, _ | 2, _ | 3, _ => exact ⟨rfl, rfl⟩
                · refine sg (h := O) ?_
                  refine sg (h := O) ?_
                  refine clg (h := by exact fun ι hV hl => RLegal_C _ _ l _ (hv.le hl)) ?_
                  refine st (h := O) ?_
                  refine nl ?_
                  refine cB (fun c3 => ?_) (fun c3 => ?_)
                  · refine rg ?_
                    iterate 2 (refine st (h := O) ?_)
                    refine st (h := sdLN) ?_
                    refine st (h := O) ?_
                    refine cl (h := by exact fun ι hV hl => hFr _ _ a a1 _ _ _ (tabD l x l.length) (hv.le hl) hgl hgx ha1 (by omega) (hTr.push ha1 hV (t := 29) rfl rfl) htk) ?_
                    refine so ?_
                    refine nl ?_
                    refine ck1 (fun k => (rowL (bRow l x (tabD l x l.length) a1 (foA l a1 + 1 - a1))).getD k 0) (by exact trivial) (by exact ⟨rfl, rfl, rfl, rfl, rfl, rfl, trivial⟩) (by exact ⟨rfl, rfl, rfl, rfl, rfl, rfl, trivial⟩) ?_
                    intro c hc
                    rw [rsA_row hgl ha1 (by omega) (.inr c3)]
                    match c, hc with
                    | 0, _ | 1, _ | 2, _ | 3, _ => exact ⟨rfl, rfl⟩
                  · refine sk ?_
                    refine ck1 (fun k => if k % 2 = 0 then -1 else 0) (by exact trivial) (by exact ⟨rfl, rfl, rfl, rfl, rfl, rfl, trivial⟩) (by exact ⟨rfl, rfl, rfl, rfl, rfl, rfl, trivial⟩) ?_
                    intro c hc
                    have e1 : c * 2 % 2 = 0 := by omega
                    have e2 : ¬ (c * 2 + 1) % 2 = 0 := by omega
                    rw [rsA_no ha1 (by omega) (by rintro (h | h)
                                                  · omega
                                                  · rw [h] at c3; cases c3)]
                    simp [e1, e2]
            · intro W L1 K1 e1 e2 hI
              dsimp only [List.cons_append, List.nil_append] at e1 e2
              subst e1 e2
              refine sq ?_
              refine rg ?_
              iterate 2 (refine st (h := O) ?_)
              refine nl ?_
              refine cD (fun c4 => ?_) (fun c4 => ?_)
              · refine rg ?_
                iterate 2 (refine st (h := O) ?_)
                refine st (h := sdLN) ?_
                refine st (h := (sdX (z := 8))) ?_
                refine soGn (ys := [_, _, _, _, _, _, _, _]) ?_
                refine nl ?_
                refine bk ?_
                refine rg ?_
                refine st (h := O) ?_
                refine st (h := sdS) ?_
                refine st (h := O) ?_
                refine nl ?_
                refine bk2 (_) (_) (by exact ⟨rfl, trivial⟩) (by exact ⟨rfl, rfl, rfl, rfl, trivial⟩) (by exact ⟨rfl, rfl, rfl, rfl, trivial⟩) ?_ ?_
                · omega
                · refine ⟨by omega, by omega, hTr.put (b1 := if a = -1 then l.length else a.toNat) ?_ hI ?_⟩
                  · by_cases h : a = -1
                    · rw [if_pos h]; exact .inr ⟨h, rfl⟩
                    · rw [if_neg h]; exact .inl (by omega)
                  · first | (rw [if_pos c4]; omega) | (rw [if_neg c4]; omega)
              · refine rg ?_
                iterate 2 (refine st (h := O) ?_)
                refine st (h := sdLN) ?_
                refine st (h := (sdX (z := 8))) ?_
                refine soGn (ys := [_, _, _, _, _, _, _, _]) ?_
                refine nl ?_
                refine bk ?_
                refine rg ?_
                refine st (h := O) ?_
                refine st (h := sdS) ?_
                refine st (h := O) ?_
                refine nl ?_
                refine bk2 (_) (_) (by exact ⟨rfl, trivial⟩) (by exact ⟨rfl, rfl, rfl, rfl, trivial⟩) (by exact ⟨rfl, rfl, rfl, rfl, trivial⟩) ?_ ?_
                · omega
                · refine ⟨by omega, by omega, hTr.put (b1 := if a = -1 then l.length else a.toNat) ?_ hI ?_⟩
                  · by_cases h : a = -1
                    · rw [if_pos h]; exact .inr ⟨h, rfl⟩
                    · rw [if_neg h]; exact .inl (by omega)
                  · first | (rw [if_pos c4]; omega) | (rw [if_neg c4]; omega)
          · obtain rfl : a = -2 := by omega
            have hTn : T (0 + (l.length : Int).toNat * 8 + (1 : Int).toNat * 2 + 0) = (rfW (tabD l x l.length 0 1)).1 := by
              have := (hTr.2 (by omega) 1 (by omega)).1
              simp only [rsA] at this
              rw [if_neg (by omega)] at this
              simpa using this
            have hTc : T (0 + (l.length : Int).toNat * 8 + (1 : Int).toNat * 2 + 1) = (tabD l x l.length 0 1).2 := by
              have := (hTr.2 (by omega) 1 (by omega)).2
              simp only [rsA] at this
              rw [if_neg (by omega)] at this
              simpa [rfW] using this
            have htk : ∀ i c, i < l.length → TabOk l i (tabD l x l.length i c) := fun i c h => tabD_ok hgl l.length i c h
            have ht0 := (htk 0 1 (by omega)).lo
            refine ex ?_
            iterate 2 (refine sq ?_)
            refine rg ?_
            iterate 2 (refine st (h := O) ?_)
            refine st (h := (sdX (z := 8))) ?_
            refine st (h := (sdXA (z := 2))) ?_
            refine st (h := sdFA) ?_
            refine st (h := (by first | exact sdLG | exact sdW)) ?_
            refine st (h := O) ?_
            refine nl ?_
            refine cD (fun c5 => ?_) (fun c5 => ?_)
            · refine sq ?_
              refine rg ?_
              iterate 3 (refine st (h := O) ?_)
              refine nl ?_
              have hb := hno (fun h => by
                have := c5
                rw [hTn] at this
                unfold rfW at this
                rw [if_neg h.2.2] at this
                dsimp only at this
                omega)
              refine rt ⟨_, ?_, .inr ⟨0, 0, rfl⟩, fun G hG => ?_⟩
              · rw [hb]
              · rw [hb]; exact .inr ⟨rfl, rfl⟩
            · have hnz : (tabD l x l.length 0 1).1 ≠ 0 := fun h => c5 (by rw [hTn]; unfold rfW; rw [if_pos h]; dsimp only; omega)
              have hb := hye ⟨hgl, hgx, hnz⟩
              refine sk ?_
              refine sq ?_
              refine rg ?_
              iterate 2 (refine st (h := O) ?_)
              refine st (h := (sdX (z := 8))) ?_
              refine st (h := (sdXA (z := 2))) ?_
              refine st (h := sdFA) ?_
              refine st (h := (by first | exact sdLG | exact sdW)) ?_
              refine st (h := O) ?_
              refine nl ?_
              refine sq ?_
              refine rg ?_
              refine st (h := O) ?_
              refine nl ?_
              refine sq ?_
              refine rg ?_
              iterate 2 (refine st (h := O) ?_)
              refine nl ?_
              refine sq ?_
              refine bl ?_
              refine J.loop5 (α := Option Nat) (β := Nat) (γ := List Value) (δ := Int) (ε := Int) (fun o m cs a cls => -1 ≤ a ∧ a < l.length ∧ apB o m ∧ (m : Int) ≤ a + 1 ∧ cs.length = m ∧ (0 ≤ cls ∧ cls ≤ 3) ∧ (a + 1 < l.length → (tabD l x l.length (a + 1).toNat cls.toNat).1 ≠ 0) ∧ ∃ xs d, cs = ivs xs ∧ l.length ≤ (a + 1).toNat + d ∧ pathB l x (tabD l x l.length) l.length 0 1 = xs ++ pathB l x (tabD l x l.length) d (a + 1).toNat cls) (fun o m cs a cls => [(14, .int .i64 cls), (12, apV 175 o m), (13, .int .i64 a)]) [(0, _), (3, _), (7, _), (8, _), (11, _)] (fun o m cs a cls => apR 175 3 1 true o cs ++ []) [(29, _), (3, _)] (fun o m cs a cls => l.length - (a + 1).toNat) (none) (0) ([]) (-1) (1) (by exact ⟨rfl, rfl, rfl, trivial⟩) (by exact ⟨rfl, rfl, rfl, rfl, rfl, trivial⟩) (by exact (by repeat' first | exact trivial | refine And.intro rfl ?_)) ?_ ?_
              · exact ⟨by omega, by omega, rfl, by omega, rfl, by omega, fun _ => hnz, [], l.length, rfl, by omega, rfl⟩
              · intro o m cs a cls L1 K1 e1 e2 hI
                rcases o with _ | cap_o
                all_goals
                  dsimp only [apV, apR, List.cons_append, List.nil_append] at e1 e2
                  subst e1 e2
                  obtain ⟨ha, hal, hap, hm, hcl, hcls, hnz2, xs, d, rfl, hd, hpath⟩ := hI
                  simp only [apB] at hap
                  try (obtain rfl : m = 0 := hap; obtain rfl : xs = [] := List.eq_nil_of_length_eq_zero (by simpa [ivs] using hcl))
                  iterate 2 (refine sq ?_)
                  refine rg ?_
                  iterate 2 (refine st (h := O) ?_)
                  refine st (h := sdS) ?_
                  refine st (h := O) ?_
                  refine nl ?_
                  refine cN (fun c6 => ?_) (fun c6 => ?_)
                  · obtain ⟨a1, ha1⟩ := Int.eq_ofNat_of_zero_le (show (0 : Int) ≤ a + 1 by omega)
                    have ha1l : a1 < l.length := by omega
                    have e1 : (a + 1).toNat = a1 := by omega
                    rw [e1] at hnz2
                    obtain ⟨b, hab, hbl, hb1, hb2, hb3, hb4⟩ := tab_next hgl ha1l (hnz2 (by omega))
                    have hrs : (rsA l x a cls.toNat).1 = (b : Int) := by
                      unfold rsA rfW
                      rw [if_neg (by omega), e1]
                      dsimp only
                      rw [if_neg (hnz2 (by omega)), hb1]
                    have hj := judD_cls l x a1 b
                    refine sk ?_
                    refine bl ?_
                    refine sq ?_
                    refine rg ?_
                    iterate 2 (refine st (h := O) ?_)
                    refine nl ?_
                    iterate 2 (refine sq ?_)
                    refine rg ?_
                    iterate 2 (refine st (h := O) ?_)
                    refine nl ?_
                    refine cD (fun c7 => ?_) (fun c7 => ?_)
                    · have hTx : T (0 + (l.length : Int).toNat * 8 + cls.toNat * 2 + 0) = (b : Int) := by
                        have := (hTr.2 (by omega) cls.toNat (by omega)).1
                        rw [show (-1 : Int) = a from by omega, hrs] at this
                        simpa using this
                      refine rg ?_
                      iterate 2 (refine st (h := O) ?_)
                      refine nl ?_
                      refine sq ?_
                      refine rg ?_
                      iterate 3 (refine st (h := O) ?_)
                      refine st (h := (sdX (z := 8))) ?_
                      refine st (h := (sdXA (z := 2))) ?_
                      refine st (h := sdFA) ?_
                      refine st (h := (by first | exact sdLG | exact sdW)) ?_
                      refine st (h := O) ?_
                      refine nl ?_
                      refine sq ?_
                      rw [hTx]
                      refine rg ?_
                      iterate 3 (refine st (h := O) ?_)
                      refine st (h := sdLN) ?_
                      refine cl (h := by exact fun ι hV hl => hTo _ _ _ a1 b (hv.le hl) hgl hgx ha1 hab hbl hb3) ?_
                      iterate 2 (refine st (h := O) ?_)
                      refine nl ?_
                      refine sq ?_
                      refine rg ?_
                      iterate 2 (refine st (h := O) ?_)
                      refine sl ?_
                      first | refine apN (news := [_]) 175 true [(0, _), (3, _), (7, _), (8, _), (11, _), (14, _), (16, _)] [(29, _), (3, _)] ?_ | refine apO (news := [_]) 1175 175 [(0, _), (3, _), (7, _), (8, _), (11, _), (14, _), (16, _)] [(29, _), (3, _)] ?_
                      intro cap113 hc113 hd113
                      refine st (h := O) ?_
                      refine nl ?_
                      refine rg ?_
                      iterate 2 (refine st (h := O) ?_)
                      refine nl ?_
                      refine bk ?_
                      refine bk5 (some _) (_) (_) (_) (_) (by exact ⟨rfl, rfl, rfl, trivial⟩) (by exact ⟨rfl, rfl, rfl, rfl, rfl, trivial⟩) (by exact (by repeat' first | exact trivial | refine And.intro rfl ?_)) ?_ ?_
                      · omega
                      · obtain ⟨d, rfl⟩ : ∃ e, d = e + 1 := ⟨d - 1, by omega⟩
                        rw [e1, pathB, if_pos ha1l, hb1, Int.toNat_natCast] at hpath
                        simp only [apB, List.length_append, List.length_cons, List.length_nil]
                        refine ⟨by omega, by omega, by omega, by omega, by first | trivial | omega, hj, fun h => ?_, _ ++ [_], d, by first | exact ivs_snoc _ _ | exact ivs_snoc [] _, by omega, ?_⟩
                        · rw [show ((b : Int) + 1).toNat = b + 1 from by omega]; exact hb4 (by omega)
                        · rw [hpath, List.append_assoc]; rfl
                    · obtain ⟨a', rfl⟩ := Int.eq_ofNat_of_zero_le (show (0 : Int) ≤ a by omega)
                      have hTx : T (0 + (a' : Int).toNat * 8 + cls.toNat * 2 + 0) = (b : Int) := by
                        have := (hTr.1 a' cls.toNat (by omega) (by omega) (by omega)).1
                        rw [hrs] at this
                        simpa using this
                      refine sk ?_
                      refine sq ?_
                      refine rg ?_
                      iterate 3 (refine st (h := O) ?_)
                      refine st (h := (sdX (z := 8))) ?_
                      refine st (h := (sdXA (z := 2))) ?_
                      refine st (h := sdFA) ?_
                      refine st (h := (by first | exact sdLG | exact sdW)) ?_
                      refine st (h := O) ?_
                      refine nl ?_
                      refine sq ?_
                      rw [hTx]
                      refine rg ?_
                      iterate 3 (refine st (h := O) ?_)
                      refine st (h := sdLN) ?_
                      refine cl (h := by exact fun ι hV hl => hTo _ _ _ a1 b (hv.le hl) hgl hgx ha1 hab hbl hb3) ?_
                      iterate 2 (refine st (h := O) ?_)
                      refine nl ?_
                      refine sq ?_
                      refine rg ?_
                      iterate 2 (refine st (h := O) ?_)
                      refine sl ?_
                      first | refine apN (news := [_]) 175 true [(0, _), (3, _), (7, _), (8, _), (11, _), (14, _), (16, _)] [(29, _), (3, _)] ?_ | refine apO (news := [_]) 1175 175 [(0, _), (3, _), (7, _), (8, _), (11, _), (14, _), (16, _)] [(29, _), (3, _)] ?_
                      intro cap113 hc113 hd113
                      refine st (h := O) ?_
                      refine nl ?_
                      refine rg ?_
                      iterate 2 (refine st (h := O) ?_)
                      refine nl ?_
                      refine bk ?_
                      refine bk5 (some _) (_) (_) (_) (_) (by exact ⟨rfl, rfl, rfl, trivial⟩) (by exact ⟨rfl, rfl, rfl, rfl, rfl, trivial⟩) (by exact (by repeat' first | exact trivial | refine And.intro rfl ?_)) ?_ ?_
                      · omega
                      · obtain ⟨d, rfl⟩ : ∃ e, d = e + 1 := ⟨d - 1, by omega⟩
                        rw [e1, pathB, if_pos ha1l, hb1, Int.toNat_natCast] at hpath
                        simp only [apB, List.length_append, List.length_cons, List.length_nil]
                        refine ⟨by omega, by omega, by omega, by omega, by first | trivial | omega, hj, fun h => ?_, _ ++ [_], d, by first | exact ivs_snoc _ _ | exact ivs_snoc [] _, by omega, ?_⟩
                        · rw [show ((b : Int) + 1).toNat = b + 1 from by omega]; exact hb4 (by omega)
                        · rw [hpath, List.append_assoc]; rfl
                  · obtain rfl : a = l.length - 1 := by omega
                    refine ex ?_
                    refine sq ?_
                    refine rg ?_
                    iterate 5 (refine st (h := O) ?_)
                    refine nl ?_
                    rw [hTc]
                    refine rtX fun ι hV => ?_
                    rw [show ((l.length : Int) - 1 + 1).toNat = l.length from by omega, pathB_end, List.append_nil] at hpath
                    rw [hb, hpath]
                    refine ⟨_, rfl, ?_, fun G hG => ?_⟩
                    · first | exact .inr ⟨0, 0, rfl⟩ | exact .inl ⟨_, _, _, _, rfl⟩
                    · first
                        | exact .inr ⟨rfl, rfl⟩
                        | (simp only [ivs_length] at hcl; subst hcl
                           exact hG.ivs (r := _) (ι := ι) (by repeat (first | exact List.mem_cons_self .. | apply List.mem_cons_of_mem)) rfl (by omega))
  ·
    refine C.go hT Try.func16 Try.ntmps16 ?_
    refine sq ?_
    refine rg ?_
    refine bx ?_
    iterate 3 (refine st (h := O) ?_)
    refine nl ?_
    iterate 2 (refine sq ?_)
    refine rg ?_
    refine st (h := O) ?_
    refine cl (h := by exact fun ι hV hl => RGood_C _ _ [] (hv.le hl)) ?_
    iterate 2 (refine st (h := O) ?_)
    refine gB (fun g20 => ?_) (fun g20 => ?_)
    · refine sp ?_
      iterate 2 (refine sp ?_)
      refine st (h := O) ?_
      refine nl ?_
      refine cT ?_
      refine sq ?_
      refine rg ?_
      iterate 3 (refine st (h := O) ?_)
      refine nl ?_
      refine rt ⟨_, ?_, .inr ⟨0, 0, rfl⟩, fun G hG => ?_⟩
      · rw [hno (fun h => not_of g20 h.1)]
      · rw [hno (fun h => not_of g20 h.1)]; exact .inr ⟨rfl, rfl⟩
    · cases of_not g20

end Go.Proofs.Ytbeblgjibfoanaa.Am
namespace Go.Proofs.Ytbeblgjibfoanaa.Am
set_option linter.unusedSimpArgs false
set_option linter.unusedVariables false
set_option maxRecDepth 100000
set_option maxHeartbeats 4000000
open Go Go.RowKit
theorem R24Break_C (F : Mem) (v : Value) (l : List Item) (x : Par) (hv : RItems F v l) : C Try.prog 14 [v, x.v] F (fun u Y => ∃ w, u = .tuple #[.agg #[w, .int .i64 (breakD l x).1.2.1, .bool (breakD l x).1.2.2], .int .i64 (breakD l x).2] ∧ SlV w ∧ ∀ G, Rd G Y → RInts G w (breakD l x).1.1) := by
  have hn1 : ¬ goodL l = true → breakD l x = (([], 0, false), 220) := fun h => by rw [breakD, if_neg h]
  have hn2 : goodL l = true → ¬ x.good = true → breakD l x = (([], 0, false), 1) := fun h h2 => by rw [breakD, if_pos h, if_neg h2]
  have hy1 : goodL l = true → x.good = true → (bestD l x).2.2 = true → breakD l x = (bestD l x, 0) := fun h h2 h3 => by rw [breakD, if_pos h, if_pos h2, if_pos h3]
  have hy2 : goodL l = true → x.good = true → ¬ (bestD l x).2.2 = true → breakD l x = ((firstD l x, 0, false), 0) := fun h h2 h3 => by rw [breakD, if_pos h, if_pos h2, if_neg h3]
  have hBt : ∀ G, RItems G v l → _ := fun G h => R24Best_C G v l x h
  have hFt : ∀ G, RItems G v l → _ := fun G h => R24First_C G v l x h
  have hGd : ∀ G, _ := fun G => r23Good_C G x
  obtain ⟨xw, tol, line, twice, odd⟩ := x
  generalize hx : (⟨xw, tol, line, twice, odd⟩ : Par) = x at *
  have hxv : x.v = .agg #[.int .i64 xw, .int .i64 tol, .int .i64 line, .int .i64 twice, .int .i64 odd] := by rw [← hx]; rfl
  rw [hxv] at hBt hFt hGd ⊢
  rcases hv.forms with ⟨vb, vo, vc, rfl⟩ | ⟨rfl, rfl⟩
  ·
    refine C.go hT Try.func14 Try.ntmps14 ?_
    refine sq ?_
    refine rg ?_
    refine bx ?_
    refine al ?_
    refine st (h := O) ?_
    refine nl ?_
    iterate 2 (refine sq ?_)
    refine rg ?_
    refine st (h := O) ?_
    refine cl (h := by exact fun ι hV hl => RGood_C _ _ l (hv.le hl)) ?_
    refine st (h := O) ?_
    refine nl ?_
    refine cB (fun c0 => ?_) (fun c0 => ?_)
    · refine sq ?_
      refine rg ?_
      refine st (h := O) ?_
      refine so ?_
      refine st (h := O) ?_
      refine nl ?_
      refine rtX fun ι hV => ?_
      rw [hn1 (not_of c0)]
      exact ⟨_, rfl, .inr ⟨0, 0, rfl⟩, fun G hG => .inr ⟨rfl, rfl⟩⟩
    · refine sk ?_
      iterate 2 (refine sq ?_)
      refine rg ?_
      refine st (h := sdLN) ?_
      refine cl (h := by exact fun ι hV hl => hGd _) ?_
      refine st (h := O) ?_
      refine nl ?_
      refine cB (fun c1 => ?_) (fun c1 => ?_)
      · refine sq ?_
        refine rg ?_
        refine st (h := O) ?_
        refine so ?_
        refine st (h := O) ?_
        refine nl ?_
        refine rtX fun ι hV => ?_
        rw [hn2 (of_not c0) (not_of c1)]
        exact ⟨_, rfl, .inr ⟨0, 0, rfl⟩, fun G hG => .inr ⟨rfl, rfl⟩⟩
      · refine sk ?_
        refine sq ?_
        refine rg ?_
        refine st (h := O) ?_
        refine st (h := sdLN) ?_
        refine clC (h := by exact fun ι hV hl => hBt _ (hv.le hl)) ?_
        intro u1 Y1 hQ1 hpv1 hpp1 hN1
        obtain ⟨w1, rfl, hw1, hG1⟩ := hQ1
        rcases hw1 with ⟨wb, wo, wn, wc, rfl⟩ | ⟨wn, wc, rfl⟩
        all_goals
          iterate 7 (refine st (h := O) ?_)
          refine nl ?_
          iterate 2 (refine sq ?_)
          refine rg ?_
          refine st (h := O) ?_
          refine nl ?_
          refine cB (fun c2 => ?_) (fun c2 => ?_)
          · refine sq ?_
            refine rg ?_
            iterate 3 (refine st (h := O) ?_)
            refine so ?_
            refine st (h := O) ?_
            refine nl ?_
            refine rtY hpp1 fun ι hV => ?_
            rw [hy1 (of_not c0) (of_not c1) c2]
            exact ⟨_, by rw [c2]; rfl, by first | exact .inl ⟨_, _, _, _, rfl⟩ | exact .inr ⟨_, _, rfl⟩, fun G hG => hG1 G hG.app_right⟩
          · refine sk ?_
            refine sq ?_
            refine rg ?_
            refine st (h := O) ?_
            refine st (h := sdLN) ?_
            refine clC (h := by exact fun ι hV hl => hFt _ ((hv.le hN1.le).le hl)) ?_
            intro u2 Y2 hQ2 hpv2 hpp2 hN2
            have hw2 := (hQ2 _ hN2.rows).sl
            rw [add_add]
            rcases hw2 with ⟨xb, xo, xn, xc, rfl⟩ | ⟨xn, xc, rfl⟩
            all_goals
              refine st (h := O) ?_
              refine so ?_
              refine st (h := O) ?_
              refine nl ?_
              refine rtY (PlainRows.app hpp1 hpp2) fun ι hV => ?_
              rw [hy2 (of_not c0) (of_not c1) (by rw [c2]; decide)]
              exact ⟨_, rfl, by first | exact .inl ⟨_, _, _, _, rfl⟩ | exact .inr ⟨_, _, rfl⟩, fun G hG => hQ2 G hG.app_right.app_left⟩
  ·
    refine C.go hT Try.func14 Try.ntmps14 ?_
    refine sq ?_
    refine rg ?_
    refine bx ?_
    refine al ?_
    refine st (h := O) ?_
    refine nl ?_
    iterate 2 (refine sq ?_)
    refine rg ?_
    refine st (h := O) ?_
    refine cl (h := by exact fun ι hV hl => RGood_C _ _ [] (hv.le hl)) ?_
    refine st (h := O) ?_
    refine nl ?_
    refine cB (fun c0 => ?_) (fun c0 => ?_)
    · refine sq ?_
      refine rg ?_
      refine st (h := O) ?_
      refine so ?_
      refine st (h := O) ?_
      refine nl ?_
      refine rtX fun ι hV => ?_
      rw [hn1 (not_of c0)]
      exact ⟨_, rfl, .inr ⟨0, 0, rfl⟩, fun G hG => .inr ⟨rfl, rfl⟩⟩
    · cases of_not c0

end Go.Proofs.Ytbeblgjibfoanaa.Am
