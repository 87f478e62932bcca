/- Rules for walking Go functions, and contracts proved by them (V1p, N5, N6, M1, M2, M3, M4, N7, M5). -/
import Derived.Test.YtfcckfiipbdnkaaZ2
import Derived.Laws.Concat
namespace Go.Proofs.Ytfcckfiipbdnkaa.Am
set_option linter.unusedSimpArgs false
set_option linter.unusedVariables false
set_option maxRecDepth 100000
set_option maxHeartbeats 4000000
open Go Go.RowKit
theorem fIn_C (F : Mem) (x : Int) : C0 Try.prog 37 [.int .i64 x] F (.bool (decide (-1099511627776 ≤ x ∧ x ≤ 1099511627776))) := by
  refine C.go hT Try.func37 Try.ntmps37 ?_
  refine sq ?_
  refine rg ?_
  refine st (h := O) ?_
  refine nl ?_
  refine sq ?_
  refine rg ?_
  iterate 3 (refine st (h := O) ?_)
  refine gD (fun g5 => ?_) (fun g5 => ?_)
  · refine sg (h := O) ?_
    refine sg (h := O) ?_
    iterate 2 (refine st (h := O) ?_)
    refine nl ?_
    refine rt ⟨?_, rfl⟩
    simp only [Value.bool.injEq, eq_comm (a := false), decide_eq_true_eq, decide_eq_false_iff_not, decide_eq_decide]; omega
  · refine sp ?_
    refine sp ?_
    iterate 2 (refine st (h := O) ?_)
    refine nl ?_
    refine rt ⟨?_, rfl⟩
    simp only [Value.bool.injEq, eq_comm (a := false), decide_eq_true_eq, decide_eq_false_iff_not, decide_eq_decide]; omega
def keptS (x : Int) (ok : Bool) : Int × Bool := if ok = true then keepS x else (0, false)
theorem kept_C (F : Mem) (x : Int) (ok : Bool) : C0 Try.prog 47 [.int .i64 x, .bool ok] F (.tuple #[.int .i64 (keptS x ok).1, .bool (keptS x ok).2]) := by
  refine C.go hT Try.func47 Try.ntmps47 ?_
  refine sq ?_
  refine rg ?_
  iterate 2 (refine st (h := O) ?_)
  refine nl ?_
  iterate 2 (refine sq ?_)
  refine rg ?_
  iterate 3 (refine st (h := O) ?_)
  refine gB (fun g8 => ?_) (fun g8 => ?_)
  · refine sp ?_
    iterate 2 (refine sp ?_)
    refine st (h := O) ?_
    refine nl ?_
    refine cT ?_
    refine sq ?_
    refine rg ?_
    iterate 2 (refine st (h := O) ?_)
    refine nl ?_
    have h : ok = false := by simpa using g8
    subst h
    exact rt ⟨rfl, rfl⟩
  · have h : ok = true := by simpa using g8
    subst h
    refine sg (h := O) ?_
    refine clg (h := by exact fun ι hV hl => fIn_C _ _) ?_
    refine sg (h := O) ?_
    refine st (h := O) ?_
    refine nl ?_
    refine cB (fun c0 => ?_) (fun c0 => ?_)
    · refine sq ?_
      refine rg ?_
      iterate 2 (refine st (h := O) ?_)
      refine nl ?_
      have h : ¬ (-1099511627776 ≤ x ∧ x ≤ 1099511627776) := of_decide_eq_false (by simpa only [Bool.not_eq_true'] using c0)
      exact rt ⟨by rw [keptS, if_pos rfl, keepS, if_neg h], rfl⟩
    · have h : (-1099511627776 ≤ x ∧ x ≤ 1099511627776) := of_decide_eq_true (by simpa only [Bool.not_eq_false'] using c0)
      refine sk ?_
      refine sq ?_
      refine rg ?_
      iterate 3 (refine st (h := O) ?_)
      refine nl ?_
      exact rt ⟨by rw [keptS, if_pos rfl, keepS, if_pos h], rfl⟩
theorem amount_C (F : Mem) (x : Int) (hx : i64ok x) : C0 Try.prog 54 [.int .i64 x] F (.int .u64 (amt x)) := by
  unfold i64ok at hx
  refine C.go hT Try.func54 Try.ntmps54 ?_
  refine sq ?_
  refine rg ?_
  refine st (h := O) ?_
  refine nl ?_
  iterate 2 (refine sq ?_)
  refine rg ?_
  iterate 2 (refine st (h := O) ?_)
  refine nl ?_
  refine cD (fun c0 => ?_) (fun c0 => ?_)
  · refine sq ?_
    refine rg ?_
    iterate 4 (refine st (h := O) ?_)
    refine nl ?_
    refine rt ⟨?_, rfl⟩
    rw [amt, if_pos c0]
    simp only [wrapu]
    rw [show (0 - x % 18446744073709551616) % 18446744073709551616 = -x from by omega]
  · refine sk ?_
    refine sq ?_
    refine rg ?_
    iterate 3 (refine st (h := O) ?_)
    refine nl ?_
    refine rt ⟨?_, rfl⟩
    rw [amt, if_neg c0]
    simp only [wrapu]
    rw [show x % 18446744073709551616 = x from by omega]
def sgnD (m : Int) (b : Bool) : Int := if b = true then IntKind.i64.wrap (0 - IntKind.i64.wrap m) else IntKind.i64.wrap m
theorem sgnD_in {m : Int} (h0 : 0 ≤ m) (h1 : m < 9223372036854775808) (b : Bool) : sgnD m b = if b = true then -m else m := by
  unfold sgnD
  rw [wrap_i64 (x := m) (by omega) (by omega), wrap_i64 (x := 0 - m) (by omega) (by omega)]
  split <;> omega
theorem signed_C (F : Mem) (m : Int) (b : Bool) : C0 Try.prog 48 [.int .u64 m, .bool b] F (.int .i64 (sgnD m b)) := by
  refine C.go hT Try.func48 Try.ntmps48 ?_
  refine sq ?_
  refine rg ?_
  refine st (h := O) ?_
  refine nl ?_
  iterate 2 (refine sq ?_)
  refine rg ?_
  refine st (h := O) ?_
  refine nl ?_
  refine cB (fun c0 => ?_) (fun c0 => ?_)
  · refine sq ?_
    refine rg ?_
    iterate 4 (refine st (h := O) ?_)
    refine nl ?_
    exact rt ⟨by rw [sgnD, if_pos c0], rfl⟩
  · refine sk ?_
    refine sq ?_
    refine rg ?_
    iterate 3 (refine st (h := O) ?_)
    refine nl ?_
    exact rt ⟨by rw [sgnD, if_neg (by rw [c0]; decide)], rfl⟩
theorem Mul64_C (F : Mem) (a b : Int) (ha0 : 0 ≤ a) (ha : a < 18446744073709551616) (hb0 : 0 ≤ b) (hb : b < 18446744073709551616) : C0 Try.prog 53 [.int .u64 a, .int .u64 b] F (.tuple #[.int .u64 (a * b / 18446744073709551616), .int .u64 (a * b % 18446744073709551616)]) := by
  have p11 := mul_bd (x := a / 4294967296) (y := b / 4294967296) (by omega) (by omega) (by omega) (by omega)
  have p10 := mul_bd (x := a / 4294967296) (y := b % 4294967296) (by omega) (by omega) (by omega) (by omega)
  have p01 := mul_bd (x := a % 4294967296) (y := b / 4294967296) (by omega) (by omega) (by omega) (by omega)
  have p00 := mul_bd (x := a % 4294967296) (y := b % 4294967296) (by omega) (by omega) (by omega) (by omega)
  have hs := split_mul a b
  have hm := mul_hi_lo _ _ _ _ _ hs p11.1 p11.2 p10.1 p10.2 p01.1 p01.2 p00.1 p00.2 (mul_lt_sq ha0 ha hb0 hb).2
  rw [← hm.1]
  clear hm
  have hq : a * b < 340282366920938463463374607431768211456 := (mul_lt_sq ha0 ha hb0 hb).2
  refine C.go hT Try.func53 Try.ntmps53 ?_
  refine sq ?_
  refine rg ?_
  iterate 2 (refine st (h := O) ?_)
  refine nl ?_
  refine sq ?_
  refine rg ?_
  refine st (h := O) ?_
  refine st (h := suAnd32) ?_
  refine st (h := O) ?_
  refine nl ?_
  refine sq ?_
  refine rg ?_
  refine st (h := O) ?_
  refine st (h := suShr32) ?_
  refine st (h := O) ?_
  refine nl ?_
  refine sq ?_
  refine rg ?_
  refine st (h := O) ?_
  refine st (h := suAnd32) ?_
  refine st (h := O) ?_
  refine nl ?_
  refine sq ?_
  refine rg ?_
  refine st (h := O) ?_
  refine st (h := suShr32) ?_
  refine st (h := O) ?_
  refine nl ?_
  refine sq ?_
  refine rg ?_
  iterate 2 (refine st (h := O) ?_)
  refine st (h := suM) ?_
  refine st (h := O) ?_
  refine nl ?_
  refine sq ?_
  refine rg ?_
  iterate 2 (refine st (h := O) ?_)
  refine st (h := suM) ?_
  refine st (h := O) ?_
  refine st (h := suShr32) ?_
  refine st (h := suA) ?_
  refine st (h := O) ?_
  refine nl ?_
  refine sq ?_
  refine rg ?_
  refine st (h := O) ?_
  refine st (h := suAnd32) ?_
  refine st (h := O) ?_
  refine nl ?_
  refine sq ?_
  refine rg ?_
  refine st (h := O) ?_
  refine st (h := suShr32) ?_
  refine st (h := O) ?_
  refine nl ?_
  refine sq ?_
  refine rg ?_
  iterate 3 (refine st (h := O) ?_)
  refine st (h := suM) ?_
  refine st (h := suA) ?_
  refine st (h := O) ?_
  refine nl ?_
  refine sq ?_
  refine rg ?_
  iterate 2 (refine st (h := O) ?_)
  refine st (h := suM) ?_
  refine st (h := O) ?_
  refine st (h := suA) ?_
  refine st (h := O) ?_
  refine st (h := suShr32) ?_
  refine st (h := suA) ?_
  refine st (h := O) ?_
  refine nl ?_
  refine sq ?_
  refine rg ?_
  iterate 4 (refine st (h := O) ?_)
  refine nl ?_
  refine rt ⟨?_, rfl⟩
  simp only [wrapu]
def len1 (y c : Int) : Int := if y ≥ 256 then c + 8 + byteAt ltab (y / 2 ^ 8).toNat else c + byteAt ltab y.toNat
def len2 (y c : Int) : Int := if y ≥ 65536 then len1 (y / 2 ^ 16) (c + 16) else len1 y c
def lenD (x : Int) : Int := if x ≥ 4294967296 then len2 (x / 2 ^ 32) 32 else len2 x 0
theorem len1_is {y c : Int} (h0 : 0 < y) (h1 : y < 65536) (hc : 0 ≤ c) : ∃ L, len1 y c = c + L ∧ IsLen y L ∧ L ≤ 16 := by
  unfold len1
  split
  · exact ⟨byteAt ltab (y / 2 ^ 8).toNat + 8, by omega, isLen_up 8 (isLen_tab (by omega) (by omega)), by have := (ltab_int (y / 2 ^ 8) (by omega) (by omega)).2.1; omega⟩
  · exact ⟨byteAt ltab y.toNat, rfl, isLen_tab (by omega) (by omega), by have := (ltab_int y (by omega) (by omega)).2.1; omega⟩
theorem len2_is {y c : Int} (h0 : 0 < y) (h1 : y < 4294967296) (hc : 0 ≤ c) : ∃ L, len2 y c = c + L ∧ IsLen y L ∧ L ≤ 32 := by
  unfold len2
  split
  · obtain ⟨L, e, h, hl⟩ := len1_is (y := y / 2 ^ 16) (c := c + 16) (by omega) (by omega) (by omega)
    exact ⟨L + 16, by omega, isLen_up 16 h, by omega⟩
  · obtain ⟨L, e, h, hl⟩ := len1_is (y := y) (c := c) h0 (by omega) hc
    exact ⟨L, e, h, by omega⟩
theorem lenD_is {x : Int} (h0 : 0 < x) (h1 : x < 18446744073709551616) : IsLen x (lenD x) ∧ lenD x ≤ 64 := by
  unfold lenD
  split
  · obtain ⟨L, e, h, hl⟩ := len2_is (y := x / 2 ^ 32) (c := 32) (by omega) (by omega) (by omega)
    rw [e, Int.add_comm]
    exact ⟨isLen_up 32 h, by omega⟩
  · obtain ⟨L, e, h, hl⟩ := len2_is (y := x) (c := 0) h0 (by omega) (by omega)
    rw [e, Int.zero_add]
    exact ⟨h, by omega⟩
theorem Len64_C (F : Mem) (x : Int) (h0 : 0 < x) (h1 : x < 18446744073709551616) : C0 Try.prog 60 [.int .u64 x] F (.int .i64 (lenD x)) := by
  have b0 : ∀ y : Int, 0 ≤ byteAt ltab y.toNat ∧ byteAt ltab y.toNat < 256 := fun y => by
    unfold byteAt
    have := (ltab.data.toList.getD y.toNat 0).toNat_lt
    omega
  have q1 := b0 x
  have q2 := b0 (x / 2 ^ 8)
  have q3 := b0 (x / 2 ^ 16)
  have q4 := b0 (x / 2 ^ 16 / 2 ^ 8)
  have q5 := b0 (x / 2 ^ 32)
  have q6 := b0 (x / 2 ^ 32 / 2 ^ 8)
  have q7 := b0 (x / 2 ^ 32 / 2 ^ 16)
  have q8 := b0 (x / 2 ^ 32 / 2 ^ 16 / 2 ^ 8)
  clear b0
  refine C.go hT Try.func60 Try.ntmps60 ?_
  refine sq ?_
  refine rg ?_
  refine st (h := O) ?_
  refine nl ?_
  iterate 2 (refine sq ?_)
  refine rg ?_
  iterate 2 (refine st (h := O) ?_)
  refine nl ?_
  refine cD (fun c0 => ?_) (fun c0 => ?_)
  · refine sq ?_
    refine rg ?_
    refine st (h := O) ?_
    refine st (h := suShr 32 rfl) ?_
    refine st (h := O) ?_
    refine nl ?_
    refine rg ?_
    refine st (h := O) ?_
    refine nl ?_
    iterate 2 (refine sq ?_)
    refine rg ?_
    iterate 2 (refine st (h := O) ?_)
    refine nl ?_
    refine cD (fun c1 => ?_) (fun c1 => ?_)
    · refine sq ?_
      refine rg ?_
      refine st (h := O) ?_
      refine st (h := suShr 16 rfl) ?_
      refine st (h := O) ?_
      refine nl ?_
      refine rg ?_
      refine st (h := O) ?_
      refine st (h := sdA) ?_
      refine st (h := O) ?_
      refine nl ?_
      iterate 2 (refine sq ?_)
      refine rg ?_
      iterate 2 (refine st (h := O) ?_)
      refine nl ?_
      refine cD (fun c2 => ?_) (fun c2 => ?_)
      · refine sq ?_
        refine rg ?_
        refine st (h := O) ?_
        refine st (h := suShr 8 rfl) ?_
        refine st (h := O) ?_
        refine nl ?_
        refine rg ?_
        refine st (h := O) ?_
        refine st (h := sdA) ?_
        refine st (h := O) ?_
        refine nl ?_
        refine sq ?_
        refine rg ?_
        iterate 2 (refine st (h := O) ?_)
        refine st (h := suC (hw := by simp only [IntKind.wrap, IntKind.bits, IntKind.signed, Bool.false_and, Bool.false_eq_true, if_false]; omega)) ?_
        refine st (h := sdXs (s := ltab) (h1 := by show _ < ((256 : Nat) : Int); omega)) ?_
        refine st (h := suC (hw := wrap_i64 (by omega) (by omega))) ?_
        refine st (h := sdA) ?_
        refine st (h := O) ?_
        refine nl ?_
        refine rt ⟨congrArg (Value.int .i64) ?_, rfl⟩
        simp only [lenD, len2, len1, *, if_true, if_false, ge_iff_le]
      · refine sk ?_
        refine sq ?_
        refine rg ?_
        iterate 2 (refine st (h := O) ?_)
        refine st (h := suC (hw := by simp only [IntKind.wrap, IntKind.bits, IntKind.signed, Bool.false_and, Bool.false_eq_true, if_false]; omega)) ?_
        refine st (h := sdXs (s := ltab) (h1 := by show _ < ((256 : Nat) : Int); omega)) ?_
        refine st (h := suC (hw := wrap_i64 (by omega) (by omega))) ?_
        refine st (h := sdA) ?_
        refine st (h := O) ?_
        refine nl ?_
        refine rt ⟨congrArg (Value.int .i64) ?_, rfl⟩
        simp only [lenD, len2, len1, *, if_true, if_false, ge_iff_le]
    · refine sk ?_
      iterate 2 (refine sq ?_)
      refine rg ?_
      iterate 2 (refine st (h := O) ?_)
      refine nl ?_
      refine cD (fun c2 => ?_) (fun c2 => ?_)
      · refine sq ?_
        refine rg ?_
        refine st (h := O) ?_
        refine st (h := suShr 8 rfl) ?_
        refine st (h := O) ?_
        refine nl ?_
        refine rg ?_
        refine st (h := O) ?_
        refine st (h := sdA) ?_
        refine st (h := O) ?_
        refine nl ?_
        refine sq ?_
        refine rg ?_
        iterate 2 (refine st (h := O) ?_)
        refine st (h := suC (hw := by simp only [IntKind.wrap, IntKind.bits, IntKind.signed, Bool.false_and, Bool.false_eq_true, if_false]; omega)) ?_
        refine st (h := sdXs (s := ltab) (h1 := by show _ < ((256 : Nat) : Int); omega)) ?_
        refine st (h := suC (hw := wrap_i64 (by omega) (by omega))) ?_
        refine st (h := sdA) ?_
        refine st (h := O) ?_
        refine nl ?_
        refine rt ⟨congrArg (Value.int .i64) ?_, rfl⟩
        simp only [lenD, len2, len1, *, if_true, if_false, ge_iff_le]
      · refine sk ?_
        refine sq ?_
        refine rg ?_
        iterate 2 (refine st (h := O) ?_)
        refine st (h := suC (hw := by simp only [IntKind.wrap, IntKind.bits, IntKind.signed, Bool.false_and, Bool.false_eq_true, if_false]; omega)) ?_
        refine st (h := sdXs (s := ltab) (h1 := by show _ < ((256 : Nat) : Int); omega)) ?_
        refine st (h := suC (hw := wrap_i64 (by omega) (by omega))) ?_
        refine st (h := sdA) ?_
        refine st (h := O) ?_
        refine nl ?_
        refine rt ⟨congrArg (Value.int .i64) ?_, rfl⟩
        simp only [lenD, len2, len1, *, if_true, if_false, ge_iff_le]
  · refine sk ?_
    iterate 2 (refine sq ?_)
    refine rg ?_
    iterate 2 (refine st (h := O) ?_)
    refine nl ?_
    refine cD (fun c1 => ?_) (fun c1 => ?_)
    · refine sq ?_
      refine rg ?_
      refine st (h := O) ?_
      refine st (h := suShr 16 rfl) ?_
      refine st (h := O) ?_
      refine nl ?_
      refine rg ?_
      refine st (h := O) ?_
      refine st (h := sdA) ?_
      refine st (h := O) ?_
      refine nl ?_
      iterate 2 (refine sq ?_)
      refine rg ?_
      iterate 2 (refine st (h := O) ?_)
      refine nl ?_
      refine cD (fun c2 => ?_) (fun c2 => ?_)
      · refine sq ?_
        refine rg ?_
        refine st (h := O) ?_
        refine st (h := suShr 8 rfl) ?_
        refine st (h := O) ?_
        refine nl ?_
        refine rg ?_
        refine st (h := O) ?_
        refine st (h := sdA) ?_
        refine st (h := O) ?_
        refine nl ?_
        refine sq ?_
        refine rg ?_
        iterate 2 (refine st (h := O) ?_)
        refine st (h := suC (hw := by simp only [IntKind.wrap, IntKind.bits, IntKind.signed, Bool.false_and, Bool.false_eq_true, if_false]; omega)) ?_
        refine st (h := sdXs (s := ltab) (h1 := by show _ < ((256 : Nat) : Int); omega)) ?_
        refine st (h := suC (hw := wrap_i64 (by omega) (by omega))) ?_
        refine st (h := sdA) ?_
        refine st (h := O) ?_
        refine nl ?_
        refine rt ⟨congrArg (Value.int .i64) ?_, rfl⟩
        simp only [lenD, len2, len1, *, if_true, if_false, ge_iff_le]
      · refine sk ?_
        refine sq ?_
        refine rg ?_
        iterate 2 (refine st (h := O) ?_)
        refine st (h := suC (hw := by simp only [IntKind.wrap, IntKind.bits, IntKind.signed, Bool.false_and, Bool.false_eq_true, if_false]; omega)) ?_
        refine st (h := sdXs (s := ltab) (h1 := by show _ < ((256 : Nat) : Int); omega)) ?_
        refine st (h := suC (hw := wrap_i64 (by omega) (by omega))) ?_
        refine st (h := sdA) ?_
        refine st (h := O) ?_
        refine nl ?_
        refine rt ⟨congrArg (Value.int .i64) ?_, rfl⟩
        simp only [lenD, len2, len1, *, if_true, if_false, ge_iff_le]
    · refine sk ?_
      iterate 2 (refine sq ?_)
      refine rg ?_
      iterate 2 (refine st (h := O) ?_)
      refine nl ?_
      refine cD (fun c2 => ?_) (fun c2 => ?_)
      · refine sq ?_
        refine rg ?_
        refine st (h := O) ?_
        refine st (h := suShr 8 rfl) ?_
        refine st (h := O) ?_
        refine nl ?_
        refine rg ?_
        refine st (h := O) ?_
        refine st (h := sdA) ?_
        refine st (h := O) ?_
        refine nl ?_
        refine sq ?_
        refine rg ?_
        iterate 2 (refine st (h := O) ?_)
        refine st (h := suC (hw := by simp only [IntKind.wrap, IntKind.bits, IntKind.signed, Bool.false_and, Bool.false_eq_true, if_false]; omega)) ?_
        refine st (h := sdXs (s := ltab) (h1 := by show _ < ((256 : Nat) : Int); omega)) ?_
        refine st (h := suC (hw := wrap_i64 (by omega) (by omega))) ?_
        refine st (h := sdA) ?_
        refine st (h := O) ?_
        refine nl ?_
        refine rt ⟨congrArg (Value.int .i64) ?_, rfl⟩
        simp only [lenD, len2, len1, *, if_true, if_false, ge_iff_le]
      · refine sk ?_
        refine sq ?_
        refine rg ?_
        iterate 2 (refine st (h := O) ?_)
        refine st (h := suC (hw := by simp only [IntKind.wrap, IntKind.bits, IntKind.signed, Bool.false_and, Bool.false_eq_true, if_false]; omega)) ?_
        refine st (h := sdXs (s := ltab) (h1 := by show _ < ((256 : Nat) : Int); omega)) ?_
        refine st (h := suC (hw := wrap_i64 (by omega) (by omega))) ?_
        refine st (h := sdA) ?_
        refine st (h := O) ?_
        refine nl ?_
        refine rt ⟨congrArg (Value.int .i64) ?_, rfl⟩
        simp only [lenD, len2, len1, *, if_true, if_false, ge_iff_le]
theorem lz_C (F : Mem) (y : Int) (h0 : 0 < y) (h1 : y < 18446744073709551616) : C0 Try.prog 59 [.int .u64 y] F (.int .i64 (64 - lenD y)) := by
  have hl := (lenD_is h0 h1)
  have hl0 := hl.1.1
  refine C.go hT Try.func59 Try.ntmps59 ?_
  refine sq ?_
  refine rg ?_
  refine st (h := O) ?_
  refine nl ?_
  refine sq ?_
  refine rg ?_
  refine st (h := O) ?_
  refine cl (h := by exact fun ι hV hl => Len64_C _ _ h0 h1) ?_
  refine st (h := sdS) ?_
  refine st (h := O) ?_
  refine nl ?_
  exact rt ⟨rfl, rfl⟩
theorem lz_is {y : Int} (h0 : 0 < y) (h1 : y < 18446744073709551616) : ∃ s : Nat, 64 - lenD y = (s : Int) ∧ s ≤ 63 ∧ 9223372036854775808 ≤ y * 2 ^ s ∧ y * 2 ^ s < 18446744073709551616 := by
  obtain ⟨⟨hL0, hL1, hL2⟩, hl⟩ := lenD_is h0 h1
  obtain ⟨n, hn'⟩ := Int.eq_ofNat_of_zero_le (Int.le_of_lt hL0)
  rw [hn'] at hL0 hL1 hL2 hl ⊢
  simp only [Int.toNat_natCast] at hL1 hL2
  have hn : n ≤ 64 := by omega
  have hn0 : 0 < n := by omega
  refine ⟨64 - n, by omega, by omega, ?_, ?_⟩
  · have h := Int.mul_le_mul_of_nonneg_right hL2 (Int.le_of_lt (show (0 : Int) < 2 ^ (64 - n) from Int.pow_pos (by decide)))
    rw [← Int.pow_add] at h
    rw [show n - 1 + (64 - n) = 63 from by omega] at h
    omega
  · have h := Int.mul_lt_mul_of_pos_right hL1 (show (0 : Int) < 2 ^ (64 - n) from Int.pow_pos (by decide))
    rw [← Int.pow_add] at h
    rw [show n + (64 - n) = 64 from by omega] at h
    omega
theorem Div64_C (F : Mem) (hi lo y : Int) (h0 : 0 ≤ hi) (hlo0 : 0 ≤ lo) (hlo : lo < 18446744073709551616) (hy : y < 18446744073709551616) (hlt : hi < y) : C0 Try.prog 55 [.int .u64 hi, .int .u64 lo, .int .u64 y] F
    (.tuple #[.int .u64 ((hi * 18446744073709551616 + lo) / y), .int .u64 ((hi * 18446744073709551616 + lo) % y)]) := by
  have hy0 : 0 < y := by omega
  obtain ⟨s, hz0, hs, hY0, hY1⟩ := lz_is hy0 hy
  have hLz : ∀ G, C0 Try.prog 59 [.int .u64 y] G (.int .i64 (s : Int)) := fun G => by rw [← hz0]; exact lz_C G y hy0 hy
  have hp := pow_le63 hs
  have hsl := shr_low hlo0 hlo hs
  have hparts := shift_parts (hi := hi) hlo0 hlo hs
  have hmul : hi * 2 ^ s < y * 2 ^ s := Int.mul_lt_mul_of_pos_right hlt (by omega)
  have hmul' : hi * 2 ^ s + 2 ^ s ≤ y * 2 ^ s := by
    have := Int.mul_le_mul_of_nonneg_right (show hi + 1 ≤ y by omega) (show (0 : Int) ≤ 2 ^ s by omega)
    rw [Int.add_mul, Int.one_mul] at this; exact this
  have hh0 : 0 ≤ hi * 2 ^ s := Int.mul_nonneg h0 (by omega)
  have hmod : (hi * 2 ^ s) % 2 ^ s = 0 := Int.mul_emod_left _ _
  have hfull := two_digits (U := hi * 2 ^ s + lo / 2 ^ (64 - s)) (n1 := lo * 2 ^ s % 18446744073709551616 / 4294967296) (n0 := lo * 2 ^ s % 18446744073709551616 % 4294967296) (Y := y * 2 ^ s) (by omega)
  have hor : Go.bits .or .u64 (hi * 2 ^ s) (lo / 2 ^ (64 - s)) = hi * 2 ^ s + lo / 2 ^ (64 - s) := u64_orJ s _ _ hh0 hmod (by omega) hsl.1 hsl.2 (by omega)
  have hend1 : ((hi * 2 ^ s + lo / 2 ^ (64 - s)) * 4294967296 + lo * 2 ^ s % 18446744073709551616 / 4294967296) / (y * 2 ^ s) * 4294967296 + (((hi * 2 ^ s + lo / 2 ^ (64 - s)) * 4294967296 + lo * 2 ^ s % 18446744073709551616 / 4294967296) % (y * 2 ^ s) * 4294967296 + lo * 2 ^ s % 18446744073709551616 % 4294967296) / (y * 2 ^ s) = (hi * 18446744073709551616 + lo) / y := by
    rw [hfull.1, ← hparts]
    exact Int.mul_ediv_mul_of_pos_left _ _ (by omega)
  have hend2 : (((hi * 2 ^ s + lo / 2 ^ (64 - s)) * 4294967296 + lo * 2 ^ s % 18446744073709551616 / 4294967296) % (y * 2 ^ s) * 4294967296 + lo * 2 ^ s % 18446744073709551616 % 4294967296) % (y * 2 ^ s) / 2 ^ s = (hi * 18446744073709551616 + lo) % y := by
    rw [hfull.2, ← hparts, Int.mul_comm _ (2 ^ s), Int.mul_comm y (2 ^ s), Int.mul_emod_mul_of_pos _ _ (by omega)]
    exact Int.mul_ediv_cancel_left _ (by omega)
  have e_s : IntKind.u64.wrap (s : Int) = s := by rw [wrapu]; omega
  have hl2 : lo * 2 ^ s % 18446744073709551616 = lo * 2 ^ s % 18446744073709551616 := rfl
  clear hfull hparts
  refine C.go hT Try.func55 Try.ntmps55 ?_
  refine sq ?_
  refine rg ?_
  iterate 2 (refine st (h := O) ?_)
  refine nl ?_
  iterate 2 (refine sq ?_)
  refine rg ?_
  iterate 2 (refine st (h := O) ?_)
  refine nl ?_
  refine cD (fun c0 => ?_) (fun c0 => ?_)
  · exact absurd c0 (by omega)
  · refine sk ?_
    iterate 2 (refine sq ?_)
    refine rg ?_
    iterate 3 (refine st (h := O) ?_)
    refine nl ?_
    refine cD (fun c1 => ?_) (fun c1 => ?_)
    · exact absurd c1 (by omega)
    · refine sk ?_
      iterate 2 (refine sq ?_)
      refine rg ?_
      iterate 2 (refine st (h := O) ?_)
      refine nl ?_
      refine cD (fun c2 => ?_) (fun c2 => ?_)
      · refine sq ?_
        refine dr 8 [] [0, 1, 2, 3, 4, 5, 6, 7] ?_
        iterate 2 (refine dt (hv := by exact O) ?_)
        refine dt (hv := by exact suQ) ?_
        iterate 2 (refine dt (hv := by exact O) ?_)
        refine dt (hv := by exact suR) ?_
        iterate 2 (refine dt (hv := by exact O) ?_)
        refine dn ?_
        refine rt ⟨?_, rfl⟩
        subst c2
        rw [Int.zero_mul, Int.zero_add]
      · refine sk ?_
        refine sq ?_
        refine rg ?_
        refine st (h := O) ?_
        refine cl (h := by exact fun ι hV hl => hLz _) ?_
        refine st (h := suC) ?_
        refine st (h := O) ?_
        refine nl ?_
        refine sq ?_
        refine rg ?_
        iterate 2 (refine st (h := O) ?_)
        refine st (h := suShl s (a := y) (v := y * 2 ^ s) (by omega) (hb := rfl) (hn := by omega)) ?_
        refine st (h := O) ?_
        refine nl ?_
        refine sq ?_
        refine rg ?_
        refine st (h := O) ?_
        refine st (h := suShr 32 rfl) ?_
        refine st (h := O) ?_
        refine nl ?_
        refine sq ?_
        refine rg ?_
        refine st (h := O) ?_
        refine st (h := suAnd32) ?_
        refine st (h := O) ?_
        refine nl ?_
        refine sq ?_
        refine rg ?_
        iterate 2 (refine st (h := O) ?_)
        refine st (h := suShl s (a := hi) (v := hi * 2 ^ s) (by omega) (hb := rfl) (hn := by omega)) ?_
        iterate 2 (refine st (h := O) ?_)
        refine st (h := suS) ?_
        refine st (h := suShr (64 - s) rfl (hb := by omega) (hn := by simp [IntKind.bits])) ?_
        refine st (h := sbOr hor) ?_
        refine st (h := O) ?_
        refine nl ?_
        refine sq ?_
        refine rg ?_
        iterate 2 (refine st (h := O) ?_)
        refine st (h := suShl s rfl (hb := rfl) (hn := by omega)) ?_
        refine st (h := O) ?_
        refine nl ?_
        refine sq ?_
        refine rg ?_
        refine st (h := O) ?_
        refine st (h := suShr 32 rfl) ?_
        refine st (h := O) ?_
        refine nl ?_
        refine sq ?_
        refine rg ?_
        refine st (h := O) ?_
        refine st (h := suAnd32) ?_
        refine st (h := O) ?_
        refine nl ?_
        refine sq ?_
        generalize hU : hi * 2 ^ s + lo / 2 ^ (64 - s) = U at *
        generalize hYY : y * 2 ^ s = Y at *
        rw [show lo * 2 ^ s % 18446744073709551616 / 2 ^ 32 = lo * 2 ^ s % 18446744073709551616 / 4294967296 from rfl, show Y / 2 ^ 32 = Y / 4294967296 from rfl]
        have hn1a : 0 ≤ lo * 2 ^ s % 18446744073709551616 / 4294967296 ∧ lo * 2 ^ s % 18446744073709551616 / 4294967296 < 4294967296 := by omega
        have hn0a : 0 ≤ lo * 2 ^ s % 18446744073709551616 % 4294967296 ∧ lo * 2 ^ s % 18446744073709551616 % 4294967296 < 4294967296 := by omega
        generalize hn1 : lo * 2 ^ s % 18446744073709551616 / 4294967296 = n1 at *
        generalize hn0 : lo * 2 ^ s % 18446744073709551616 % 4294967296 = n0 at *
        have hU0 : 0 ≤ U := by omega
        have hUY : U < Y := by omega
        have hYs : Y = Y / 4294967296 * 4294967296 + Y % 4294967296 := by omega
        have hmr := Int.mul_ediv_add_emod U (Y / 4294967296)
        have hmr0 := Int.emod_nonneg U (show Y / 4294967296 ≠ 0 by omega)
        have hmr1 := Int.emod_lt_of_pos U (show 0 < Y / 4294967296 by omega)
        have hq1 := Int.ediv_nonneg hU0 (show 0 ≤ Y / 4294967296 by omega)
        have hq2 := Int.ediv_le_self (Y / 4294967296) hU0
        have hcm : U / (Y / 4294967296) * (Y / 4294967296) = Y / 4294967296 * (U / (Y / 4294967296)) := Int.mul_comm _ _
        have hcm0 : 0 ≤ U / (Y / 4294967296) * (Y / 4294967296) := Int.mul_nonneg hq1 (by omega)
        have hQ := dig_lt (u := U) (un1 := n1) (Y := Y) (by omega) hUY hn1a.2
        have hQ0 := dig_nonneg (u := U) (un1 := n1) (Y := Y) (by omega) hU0 hn1a.1
        have hg1 := dig_top (n := n1) hYs (by omega) (by omega) hU0 hn1a.2
        have hg2 := dig_guess hYs (by omega) (by omega) hUY
        have hR0 := Int.emod_nonneg (U * 4294967296 + n1) (show Y ≠ 0 by omega)
        have hR1 := Int.emod_lt_of_pos (U * 4294967296 + n1) (show 0 < Y by omega)
        have hdm := Int.mul_ediv_add_emod (U * 4294967296 + n1) Y
        refine rg ?_
        iterate 2 (refine st (h := O) ?_)
        refine st (h := suQ) ?_
        refine st (h := O) ?_
        refine nl ?_
        refine sq ?_
        refine rg ?_
        iterate 3 (refine st (h := O) ?_)
        refine st (h := suM) ?_
        refine st (h := suS) ?_
        refine st (h := O) ?_
        refine nl ?_
        refine sq ?_
        refine bl ?_
        refine J.loop2 (α := Int) (β := Int) (fun q rh => (U * 4294967296 + n1) / Y ≤ q ∧ q ≤ 4294967297 ∧ q * (Y / 4294967296) + rh = U ∧ 0 ≤ rh ∧ rh < 4294967296) (fun q rh => [(15, .int .u64 q), (16, .int .u64 rh)]) [(2, _), (8, _), (9, _), (10, _), (11, _), (13, _), (14, _)] (fun q rh => []) [] (fun q rh => (8589934592 - rh).toNat) (_) (_) (by exact ⟨rfl, rfl, trivial⟩) (by exact ⟨rfl, rfl, rfl, rfl, rfl, rfl, rfl, trivial⟩) (by exact trivial) ?_ ?_
        · exact ⟨hg1, hg2, by omega, by omega, by omega⟩
        · intro q rh L1 K1 e1 e2 hI
          dsimp only [apV, apR, List.cons_append, List.nil_append] at e1 e2
          subst e1 e2
          obtain ⟨hqa, hqb, hqe, hr0, hr1⟩ := hI
          have hb := mulq_bd (q := q) (y := Y % 4294967296) (by omega) hqb (by omega) (by omega)
          have he' : (q - 1) * (Y / 4294967296) + (rh + Y / 4294967296) = U := by
            rw [Int.sub_mul, Int.one_mul]; omega
          iterate 2 (refine sq ?_)
          refine rg ?_
          iterate 3 (refine st (h := O) ?_)
          refine gD (fun g69 => ?_) (fun g69 => ?_)
          · have hlt2 : (U * 4294967296 + n1) / Y < q := by omega
            iterate 8 (refine sp ?_)
            refine st (h := O) ?_
            refine nl ?_
            refine cT ?_
            refine sk ?_
            refine bl ?_
            refine sq ?_
            refine rg ?_
            refine st (h := O) ?_
            refine st (h := suS) ?_
            refine st (h := O) ?_
            refine nl ?_
            refine sq ?_
            refine rg ?_
            iterate 2 (refine st (h := O) ?_)
            refine st (h := suA) ?_
            refine st (h := O) ?_
            refine nl ?_
            refine sq ?_
            refine rg ?_
            iterate 2 (refine st (h := O) ?_)
            refine nl ?_
            refine cD (fun c4 => ?_) (fun c4 => ?_)
            · have hdig : q - 1 = (U * 4294967296 + n1) / Y := by
                have := dig_lo hYs (by omega) he' (un1 := n1) (by
                  have := Int.mul_le_mul (show q - 1 ≤ 4294967296 by omega) (show Y % 4294967296 ≤ 4294967295 by omega) (by omega) (by omega : (0 : Int) ≤ 4294967296)
                  omega)
                omega
              rw [hdig]
              refine ex ?_
              refine sq ?_
              refine rg ?_
              iterate 9 (refine st (h := O) ?_)
              refine nl ?_
              refine sq ?_
              have eR : IntKind.u64.wrap (IntKind.u64.wrap (IntKind.u64.wrap (U * 4294967296) + n1) - IntKind.u64.wrap ((U * 4294967296 + n1) / Y * Y)) = (U * 4294967296 + n1) % Y := by
                simp only [wrapu]
                rw [Int.mul_comm ((U * 4294967296 + n1) / Y) Y]
                generalize Y * ((U * 4294967296 + n1) / Y) = t at *
                omega
              rw [eR]
              clear eR
              generalize hRR : (U * 4294967296 + n1) % Y = R at *
              generalize hQQ : (U * 4294967296 + n1) / Y = Q1 at *
              have hmq := Int.mul_ediv_add_emod R (Y / 4294967296)
              have hmq0 := Int.emod_nonneg R (show Y / 4294967296 ≠ 0 by omega)
              have hmq1 := Int.emod_lt_of_pos R (show 0 < Y / 4294967296 by omega)
              have hw1 := Int.ediv_nonneg hR0 (show 0 ≤ Y / 4294967296 by omega)
              have hw2 := Int.ediv_le_self (Y / 4294967296) hR0
              have hcm2 : R / (Y / 4294967296) * (Y / 4294967296) = Y / 4294967296 * (R / (Y / 4294967296)) := Int.mul_comm _ _
              have hcm3 : 0 ≤ R / (Y / 4294967296) * (Y / 4294967296) := Int.mul_nonneg hw1 (by omega)
              have hV := dig_lt (u := R) (un1 := n0) (Y := Y) (by omega) hR1 hn0a.2
              have hV0 := dig_nonneg (u := R) (un1 := n0) (Y := Y) (by omega) hR0 hn0a.1
              have hv1 := dig_top (n := n0) hYs (by omega) (by omega) hR0 hn0a.2
              have hv2 := dig_guess hYs (by omega) (by omega) hR1
              have hdn := Int.mul_ediv_add_emod (R * 4294967296 + n0) Y
              have hT0 := Int.emod_nonneg (R * 4294967296 + n0) (show Y ≠ 0 by omega)
              have hT1 := Int.emod_lt_of_pos (R * 4294967296 + n0) (show 0 < Y by omega)
              refine rg ?_
              iterate 2 (refine st (h := O) ?_)
              refine st (h := suQ) ?_
              refine st (h := O) ?_
              refine nl ?_
              refine sq ?_
              refine rg ?_
              iterate 3 (refine st (h := O) ?_)
              refine st (h := suM) ?_
              refine st (h := suS) ?_
              refine st (h := O) ?_
              refine nl ?_
              refine sq ?_
              refine bl ?_
              refine J.loop2 (α := Int) (β := Int) (fun q rh => (R * 4294967296 + n0) / Y ≤ q ∧ q ≤ 4294967297 ∧ q * (Y / 4294967296) + rh = R ∧ 0 ≤ rh ∧ rh < 4294967296) (fun q rh => [(18, .int .u64 q), (16, .int .u64 rh)]) [(2, _), (8, _), (9, _), (10, _), (14, _), (15, _), (17, _)] (fun q rh => []) [] (fun q rh => (8589934592 - rh).toNat) (_) (_) (by exact ⟨rfl, rfl, trivial⟩) (by exact ⟨rfl, rfl, rfl, rfl, rfl, rfl, rfl, trivial⟩) (by exact trivial) ?_ ?_
              · exact ⟨hv1, hv2, by omega, by omega, by omega⟩
              · intro q rh L1 K1 e1 e2 hI
                dsimp only [apV, apR, List.cons_append, List.nil_append] at e1 e2
                subst e1 e2
                obtain ⟨hqa', hqb', hqe', hr0', hr1'⟩ := hI
                have hb' := mulq_bd (q := q) (y := Y % 4294967296) (by omega) hqb' (by omega) (by omega)
                have he'' : (q - 1) * (Y / 4294967296) + (rh + Y / 4294967296) = R := by
                  rw [Int.sub_mul, Int.one_mul]; omega
                iterate 2 (refine sq ?_)
                refine rg ?_
                iterate 3 (refine st (h := O) ?_)
                refine gD (fun g104 => ?_) (fun g104 => ?_)
                · have hlt3 : (R * 4294967296 + n0) / Y < q := by omega
                  iterate 8 (refine sp ?_)
                  refine st (h := O) ?_
                  refine nl ?_
                  refine cT ?_
                  refine sk ?_
                  refine bl ?_
                  refine sq ?_
                  refine rg ?_
                  refine st (h := O) ?_
                  refine st (h := suS) ?_
                  refine st (h := O) ?_
                  refine nl ?_
                  refine sq ?_
                  refine rg ?_
                  iterate 2 (refine st (h := O) ?_)
                  refine st (h := suA) ?_
                  refine st (h := O) ?_
                  refine nl ?_
                  refine sq ?_
                  refine rg ?_
                  iterate 2 (refine st (h := O) ?_)
                  refine nl ?_
                  refine cD (fun c6 => ?_) (fun c6 => ?_)
                  · have hdig2 : q - 1 = (R * 4294967296 + n0) / Y := by
                      have := dig_lo hYs (by omega) he'' (un1 := n0) (by
                        have := Int.mul_le_mul (show q - 1 ≤ 4294967296 by omega) (show Y % 4294967296 ≤ 4294967295 by omega) (by omega) (by omega : (0 : Int) ≤ 4294967296)
                        omega)
                      omega
                    rw [hdig2]
                    refine ex ?_
                    refine sq ?_
                    refine rg ?_
                    refine st (h := O) ?_
                    refine st (h := suM) ?_
                    refine st (h := O) ?_
                    refine st (h := suA) ?_
                    iterate 9 (refine st (h := O) ?_)
                    refine st (h := suShr s rfl (hb := rfl) (hn := by simp [IntKind.bits]; omega)) ?_
                    iterate 2 (refine st (h := O) ?_)
                    refine nl ?_
                    refine rt ⟨?_, rfl⟩
                    have eT : IntKind.u64.wrap (IntKind.u64.wrap (IntKind.u64.wrap (R * 4294967296) + n0) - IntKind.u64.wrap ((R * 4294967296 + n0) / Y * Y)) = (R * 4294967296 + n0) % Y := by
                      simp only [wrapu]
                      rw [Int.mul_comm ((R * 4294967296 + n0) / Y) Y]
                      generalize Y * ((R * 4294967296 + n0) / Y) = t at *
                      omega
                    rw [eT, hend1, hend2]
                  · refine sk ?_
                    refine bk ?_
                    refine bk2 (_) (_) (by exact ⟨rfl, rfl, trivial⟩) (by exact ⟨rfl, rfl, rfl, rfl, rfl, rfl, rfl, trivial⟩) (by exact trivial) ?_ ?_
                    · omega
                    · exact ⟨by omega, by omega, he'', by omega, by omega⟩
                · refine sg (h := O) ?_
                  refine sg (h := O) ?_
                  refine sg (h := suM) ?_
                  refine sg (h := O) ?_
                  refine sg (h := suM) ?_
                  refine sg (h := O) ?_
                  refine sg (h := suA) ?_
                  refine sg (h := O) ?_
                  refine st (h := O) ?_
                  refine nl ?_
                  refine cD (fun c5 => ?_) (fun c5 => ?_)
                  · have hlt3 : (R * 4294967296 + n0) / Y < q := dig_hi hYs (by omega) hqe' (by omega)
                    refine sk ?_
                    refine bl ?_
                    refine sq ?_
                    refine rg ?_
                    refine st (h := O) ?_
                    refine st (h := suS) ?_
                    refine st (h := O) ?_
                    refine nl ?_
                    refine sq ?_
                    refine rg ?_
                    iterate 2 (refine st (h := O) ?_)
                    refine st (h := suA) ?_
                    refine st (h := O) ?_
                    refine nl ?_
                    refine sq ?_
                    refine rg ?_
                    iterate 2 (refine st (h := O) ?_)
                    refine nl ?_
                    refine cD (fun c6 => ?_) (fun c6 => ?_)
                    · have hdig2 : q - 1 = (R * 4294967296 + n0) / Y := by
                        have := dig_lo hYs (by omega) he'' (un1 := n0) (by
                          have := Int.mul_le_mul (show q - 1 ≤ 4294967296 by omega) (show Y % 4294967296 ≤ 4294967295 by omega) (by omega) (by omega : (0 : Int) ≤ 4294967296)
                          omega)
                        omega
                      rw [hdig2]
                      refine ex ?_
                      refine sq ?_
                      refine rg ?_
                      refine st (h := O) ?_
                      refine st (h := suM) ?_
                      refine st (h := O) ?_
                      refine st (h := suA) ?_
                      iterate 9 (refine st (h := O) ?_)
                      refine st (h := suShr s rfl (hb := rfl) (hn := by simp [IntKind.bits]; omega)) ?_
                      iterate 2 (refine st (h := O) ?_)
                      refine nl ?_
                      refine rt ⟨?_, rfl⟩
                      have eT : IntKind.u64.wrap (IntKind.u64.wrap (IntKind.u64.wrap (R * 4294967296) + n0) - IntKind.u64.wrap ((R * 4294967296 + n0) / Y * Y)) = (R * 4294967296 + n0) % Y := by
                        simp only [wrapu]
                        rw [Int.mul_comm ((R * 4294967296 + n0) / Y) Y]
                        generalize Y * ((R * 4294967296 + n0) / Y) = t at *
                        omega
                      rw [eT, hend1, hend2]
                    · refine sk ?_
                      refine bk ?_
                      refine bk2 (_) (_) (by exact ⟨rfl, rfl, trivial⟩) (by exact ⟨rfl, rfl, rfl, rfl, rfl, rfl, rfl, trivial⟩) (by exact trivial) ?_ ?_
                      · omega
                      · exact ⟨by omega, by omega, he'', by omega, by omega⟩
                  · have hdig2 : q = (R * 4294967296 + n0) / Y := by
                      have := dig_lo hYs (by omega) hqe' (un1 := n0) (by omega)
                      omega
                    rw [hdig2]
                    refine ex ?_
                    refine sq ?_
                    refine rg ?_
                    refine st (h := O) ?_
                    refine st (h := suM) ?_
                    refine st (h := O) ?_
                    refine st (h := suA) ?_
                    iterate 9 (refine st (h := O) ?_)
                    refine st (h := suShr s rfl (hb := rfl) (hn := by simp [IntKind.bits]; omega)) ?_
                    iterate 2 (refine st (h := O) ?_)
                    refine nl ?_
                    refine rt ⟨?_, rfl⟩
                    have eT : IntKind.u64.wrap (IntKind.u64.wrap (IntKind.u64.wrap (R * 4294967296) + n0) - IntKind.u64.wrap ((R * 4294967296 + n0) / Y * Y)) = (R * 4294967296 + n0) % Y := by
                      simp only [wrapu]
                      rw [Int.mul_comm ((R * 4294967296 + n0) / Y) Y]
                      generalize Y * ((R * 4294967296 + n0) / Y) = t at *
                      omega
                    rw [eT, hend1, hend2]
            · refine sk ?_
              refine bk ?_
              refine bk2 (_) (_) (by exact ⟨rfl, rfl, trivial⟩) (by exact ⟨rfl, rfl, rfl, rfl, rfl, rfl, rfl, trivial⟩) (by exact trivial) ?_ ?_
              · omega
              · exact ⟨by omega, by omega, he', by omega, by omega⟩
          · refine sg (h := O) ?_
            refine sg (h := O) ?_
            refine sg (h := suM) ?_
            refine sg (h := O) ?_
            refine sg (h := suM) ?_
            refine sg (h := O) ?_
            refine sg (h := suA) ?_
            refine sg (h := O) ?_
            refine st (h := O) ?_
            refine nl ?_
            refine cD (fun c3 => ?_) (fun c3 => ?_)
            · have hlt2 : (U * 4294967296 + n1) / Y < q := dig_hi hYs (by omega) hqe (by omega)
              refine sk ?_
              refine bl ?_
              refine sq ?_
              refine rg ?_
              refine st (h := O) ?_
              refine st (h := suS) ?_
              refine st (h := O) ?_
              refine nl ?_
              refine sq ?_
              refine rg ?_
              iterate 2 (refine st (h := O) ?_)
              refine st (h := suA) ?_
              refine st (h := O) ?_
              refine nl ?_
              refine sq ?_
              refine rg ?_
              iterate 2 (refine st (h := O) ?_)
              refine nl ?_
              refine cD (fun c4 => ?_) (fun c4 => ?_)
              · have hdig : q - 1 = (U * 4294967296 + n1) / Y := by
                  have := dig_lo hYs (by omega) he' (un1 := n1) (by
                    have := Int.mul_le_mul (show q - 1 ≤ 4294967296 by omega) (show Y % 4294967296 ≤ 4294967295 by omega) (by omega) (by omega : (0 : Int) ≤ 4294967296)
                    omega)
                  omega
                rw [hdig]
                refine ex ?_
                refine sq ?_
                refine rg ?_
                iterate 9 (refine st (h := O) ?_)
                refine nl ?_
                refine sq ?_
                have eR : IntKind.u64.wrap (IntKind.u64.wrap (IntKind.u64.wrap (U * 4294967296) + n1) - IntKind.u64.wrap ((U * 4294967296 + n1) / Y * Y)) = (U * 4294967296 + n1) % Y := by
                  simp only [wrapu]
                  rw [Int.mul_comm ((U * 4294967296 + n1) / Y) Y]
                  generalize Y * ((U * 4294967296 + n1) / Y) = t at *
                  omega
                rw [eR]
                clear eR
                generalize hRR : (U * 4294967296 + n1) % Y = R at *
                generalize hQQ : (U * 4294967296 + n1) / Y = Q1 at *
                have hmq := Int.mul_ediv_add_emod R (Y / 4294967296)
                have hmq0 := Int.emod_nonneg R (show Y / 4294967296 ≠ 0 by omega)
                have hmq1 := Int.emod_lt_of_pos R (show 0 < Y / 4294967296 by omega)
                have hw1 := Int.ediv_nonneg hR0 (show 0 ≤ Y / 4294967296 by omega)
                have hw2 := Int.ediv_le_self (Y / 4294967296) hR0
                have hcm2 : R / (Y / 4294967296) * (Y / 4294967296) = Y / 4294967296 * (R / (Y / 4294967296)) := Int.mul_comm _ _
                have hcm3 : 0 ≤ R / (Y / 4294967296) * (Y / 4294967296) := Int.mul_nonneg hw1 (by omega)
                have hV := dig_lt (u := R) (un1 := n0) (Y := Y) (by omega) hR1 hn0a.2
                have hV0 := dig_nonneg (u := R) (un1 := n0) (Y := Y) (by omega) hR0 hn0a.1
                have hv1 := dig_top (n := n0) hYs (by omega) (by omega) hR0 hn0a.2
                have hv2 := dig_guess hYs (by omega) (by omega) hR1
                have hdn := Int.mul_ediv_add_emod (R * 4294967296 + n0) Y
                have hT0 := Int.emod_nonneg (R * 4294967296 + n0) (show Y ≠ 0 by omega)
                have hT1 := Int.emod_lt_of_pos (R * 4294967296 + n0) (show 0 < Y by omega)
                refine rg ?_
                iterate 2 (refine st (h := O) ?_)
                refine st (h := suQ) ?_
                refine st (h := O) ?_
                refine nl ?_
                refine sq ?_
                refine rg ?_
                iterate 3 (refine st (h := O) ?_)
                refine st (h := suM) ?_
                refine st (h := suS) ?_
                refine st (h := O) ?_
                refine nl ?_
                refine sq ?_
                refine bl ?_
                refine J.loop2 (α := Int) (β := Int) (fun q rh => (R * 4294967296 + n0) / Y ≤ q ∧ q ≤ 4294967297 ∧ q * (Y / 4294967296) + rh = R ∧ 0 ≤ rh ∧ rh < 4294967296) (fun q rh => [(18, .int .u64 q), (16, .int .u64 rh)]) [(2, _), (8, _), (9, _), (10, _), (14, _), (15, _), (17, _)] (fun q rh => []) [] (fun q rh => (8589934592 - rh).toNat) (_) (_) (by exact ⟨rfl, rfl, trivial⟩) (by exact ⟨rfl, rfl, rfl, rfl, rfl, rfl, rfl, trivial⟩) (by exact trivial) ?_ ?_
                · exact ⟨hv1, hv2, by omega, by omega, by omega⟩
                · intro q rh L1 K1 e1 e2 hI
                  dsimp only [apV, apR, List.cons_append, List.nil_append] at e1 e2
                  subst e1 e2
                  obtain ⟨hqa', hqb', hqe', hr0', hr1'⟩ := hI
                  have hb' := mulq_bd (q := q) (y := Y % 4294967296) (by omega) hqb' (by omega) (by omega)
                  have he'' : (q - 1) * (Y / 4294967296) + (rh + Y / 4294967296) = R := by
                    rw [Int.sub_mul, Int.one_mul]; omega
                  iterate 2 (refine sq ?_)
                  refine rg ?_
                  iterate 3 (refine st (h := O) ?_)
                  refine gD (fun g104 => ?_) (fun g104 => ?_)
                  · have hlt3 : (R * 4294967296 + n0) / Y < q := by omega
                    iterate 8 (refine sp ?_)
                    refine st (h := O) ?_
                    refine nl ?_
                    refine cT ?_
                    refine sk ?_
                    refine bl ?_
                    refine sq ?_
                    refine rg ?_
                    refine st (h := O) ?_
                    refine st (h := suS) ?_
                    refine st (h := O) ?_
                    refine nl ?_
                    refine sq ?_
                    refine rg ?_
                    iterate 2 (refine st (h := O) ?_)
                    refine st (h := suA) ?_
                    refine st (h := O) ?_
                    refine nl ?_
                    refine sq ?_
                    refine rg ?_
                    iterate 2 (refine st (h := O) ?_)
                    refine nl ?_
                    refine cD (fun c6 => ?_) (fun c6 => ?_)
                    · have hdig2 : q - 1 = (R * 4294967296 + n0) / Y := by
                        have := dig_lo hYs (by omega) he'' (un1 := n0) (by
                          have := Int.mul_le_mul (show q - 1 ≤ 4294967296 by omega) (show Y % 4294967296 ≤ 4294967295 by omega) (by omega) (by omega : (0 : Int) ≤ 4294967296)
                          omega)
                        omega
                      rw [hdig2]
                      refine ex ?_
                      refine sq ?_
                      refine rg ?_
                      refine st (h := O) ?_
                      refine st (h := suM) ?_
                      refine st (h := O) ?_
                      refine st (h := suA) ?_
                      iterate 9 (refine st (h := O) ?_)
                      refine st (h := suShr s rfl (hb := rfl) (hn := by simp [IntKind.bits]; omega)) ?_
                      iterate 2 (refine st (h := O) ?_)
                      refine nl ?_
                      refine rt ⟨?_, rfl⟩
                      have eT : IntKind.u64.wrap (IntKind.u64.wrap (IntKind.u64.wrap (R * 4294967296) + n0) - IntKind.u64.wrap ((R * 4294967296 + n0) / Y * Y)) = (R * 4294967296 + n0) % Y := by
                        simp only [wrapu]
                        rw [Int.mul_comm ((R * 4294967296 + n0) / Y) Y]
                        generalize Y * ((R * 4294967296 + n0) / Y) = t at *
                        omega
                      rw [eT, hend1, hend2]
                    · refine sk ?_
                      refine bk ?_
                      refine bk2 (_) (_) (by exact ⟨rfl, rfl, trivial⟩) (by exact ⟨rfl, rfl, rfl, rfl, rfl, rfl, rfl, trivial⟩) (by exact trivial) ?_ ?_
                      · omega
                      · exact ⟨by omega, by omega, he'', by omega, by omega⟩
                  · refine sg (h := O) ?_
                    refine sg (h := O) ?_
                    refine sg (h := suM) ?_
                    refine sg (h := O) ?_
                    refine sg (h := suM) ?_
                    refine sg (h := O) ?_
                    refine sg (h := suA) ?_
                    refine sg (h := O) ?_
                    refine st (h := O) ?_
                    refine nl ?_
                    refine cD (fun c5 => ?_) (fun c5 => ?_)
                    · have hlt3 : (R * 4294967296 + n0) / Y < q := dig_hi hYs (by omega) hqe' (by omega)
                      refine sk ?_
                      refine bl ?_
                      refine sq ?_
                      refine rg ?_
                      refine st (h := O) ?_
                      refine st (h := suS) ?_
                      refine st (h := O) ?_
                      refine nl ?_
                      refine sq ?_
                      refine rg ?_
                      iterate 2 (refine st (h := O) ?_)
                      refine st (h := suA) ?_
                      refine st (h := O) ?_
                      refine nl ?_
                      refine sq ?_
                      refine rg ?_
                      iterate 2 (refine st (h := O) ?_)
                      refine nl ?_
                      refine cD (fun c6 => ?_) (fun c6 => ?_)
                      · have hdig2 : q - 1 = (R * 4294967296 + n0) / Y := by
                          have := dig_lo hYs (by omega) he'' (un1 := n0) (by
                            have := Int.mul_le_mul (show q - 1 ≤ 4294967296 by omega) (show Y % 4294967296 ≤ 4294967295 by omega) (by omega) (by omega : (0 : Int) ≤ 4294967296)
                            omega)
                          omega
                        rw [hdig2]
                        refine ex ?_
                        refine sq ?_
                        refine rg ?_
                        refine st (h := O) ?_
                        refine st (h := suM) ?_
                        refine st (h := O) ?_
                        refine st (h := suA) ?_
                        iterate 9 (refine st (h := O) ?_)
                        refine st (h := suShr s rfl (hb := rfl) (hn := by simp [IntKind.bits]; omega)) ?_
                        iterate 2 (refine st (h := O) ?_)
                        refine nl ?_
                        refine rt ⟨?_, rfl⟩
                        have eT : IntKind.u64.wrap (IntKind.u64.wrap (IntKind.u64.wrap (R * 4294967296) + n0) - IntKind.u64.wrap ((R * 4294967296 + n0) / Y * Y)) = (R * 4294967296 + n0) % Y := by
                          simp only [wrapu]
                          rw [Int.mul_comm ((R * 4294967296 + n0) / Y) Y]
                          generalize Y * ((R * 4294967296 + n0) / Y) = t at *
                          omega
                        rw [eT, hend1, hend2]
                      · refine sk ?_
                        refine bk ?_
                        refine bk2 (_) (_) (by exact ⟨rfl, rfl, trivial⟩) (by exact ⟨rfl, rfl, rfl, rfl, rfl, rfl, rfl, trivial⟩) (by exact trivial) ?_ ?_
                        · omega
                        · exact ⟨by omega, by omega, he'', by omega, by omega⟩
                    · have hdig2 : q = (R * 4294967296 + n0) / Y := by
                        have := dig_lo hYs (by omega) hqe' (un1 := n0) (by omega)
                        omega
                      rw [hdig2]
                      refine ex ?_
                      refine sq ?_
                      refine rg ?_
                      refine st (h := O) ?_
                      refine st (h := suM) ?_
                      refine st (h := O) ?_
                      refine st (h := suA) ?_
                      iterate 9 (refine st (h := O) ?_)
                      refine st (h := suShr s rfl (hb := rfl) (hn := by simp [IntKind.bits]; omega)) ?_
                      iterate 2 (refine st (h := O) ?_)
                      refine nl ?_
                      refine rt ⟨?_, rfl⟩
                      have eT : IntKind.u64.wrap (IntKind.u64.wrap (IntKind.u64.wrap (R * 4294967296) + n0) - IntKind.u64.wrap ((R * 4294967296 + n0) / Y * Y)) = (R * 4294967296 + n0) % Y := by
                        simp only [wrapu]
                        rw [Int.mul_comm ((R * 4294967296 + n0) / Y) Y]
                        generalize Y * ((R * 4294967296 + n0) / Y) = t at *
                        omega
                      rw [eT, hend1, hend2]
              · refine sk ?_
                refine bk ?_
                refine bk2 (_) (_) (by exact ⟨rfl, rfl, trivial⟩) (by exact ⟨rfl, rfl, rfl, rfl, rfl, rfl, rfl, trivial⟩) (by exact trivial) ?_ ?_
                · omega
                · exact ⟨by omega, by omega, he', by omega, by omega⟩
            · have hdig : q = (U * 4294967296 + n1) / Y := by
                have := dig_lo hYs (by omega) hqe (un1 := n1) (by omega)
                omega
              rw [hdig]
              refine ex ?_
              refine sq ?_
              refine rg ?_
              iterate 9 (refine st (h := O) ?_)
              refine nl ?_
              refine sq ?_
              have eR : IntKind.u64.wrap (IntKind.u64.wrap (IntKind.u64.wrap (U * 4294967296) + n1) - IntKind.u64.wrap ((U * 4294967296 + n1) / Y * Y)) = (U * 4294967296 + n1) % Y := by
                simp only [wrapu]
                rw [Int.mul_comm ((U * 4294967296 + n1) / Y) Y]
                generalize Y * ((U * 4294967296 + n1) / Y) = t at *
                omega
              rw [eR]
              clear eR
              generalize hRR : (U * 4294967296 + n1) % Y = R at *
              generalize hQQ : (U * 4294967296 + n1) / Y = Q1 at *
              have hmq := Int.mul_ediv_add_emod R (Y / 4294967296)
              have hmq0 := Int.emod_nonneg R (show Y / 4294967296 ≠ 0 by omega)
              have hmq1 := Int.emod_lt_of_pos R (show 0 < Y / 4294967296 by omega)
              have hw1 := Int.ediv_nonneg hR0 (show 0 ≤ Y / 4294967296 by omega)
              have hw2 := Int.ediv_le_self (Y / 4294967296) hR0
              have hcm2 : R / (Y / 4294967296) * (Y / 4294967296) = Y / 4294967296 * (R / (Y / 4294967296)) := Int.mul_comm _ _
              have hcm3 : 0 ≤ R / (Y / 4294967296) * (Y / 4294967296) := Int.mul_nonneg hw1 (by omega)
              have hV := dig_lt (u := R) (un1 := n0) (Y := Y) (by omega) hR1 hn0a.2
              have hV0 := dig_nonneg (u := R) (un1 := n0) (Y := Y) (by omega) hR0 hn0a.1
              have hv1 := dig_top (n := n0) hYs (by omega) (by omega) hR0 hn0a.2
              have hv2 := dig_guess hYs (by omega) (by omega) hR1
              have hdn := Int.mul_ediv_add_emod (R * 4294967296 + n0) Y
              have hT0 := Int.emod_nonneg (R * 4294967296 + n0) (show Y ≠ 0 by omega)
              have hT1 := Int.emod_lt_of_pos (R * 4294967296 + n0) (show 0 < Y by omega)
              refine rg ?_
              iterate 2 (refine st (h := O) ?_)
              refine st (h := suQ) ?_
              refine st (h := O) ?_
              refine nl ?_
              refine sq ?_
              refine rg ?_
              iterate 3 (refine st (h := O) ?_)
              refine st (h := suM) ?_
              refine st (h := suS) ?_
              refine st (h := O) ?_
              refine nl ?_
              refine sq ?_
              refine bl ?_
              refine J.loop2 (α := Int) (β := Int) (fun q rh => (R * 4294967296 + n0) / Y ≤ q ∧ q ≤ 4294967297 ∧ q * (Y / 4294967296) + rh = R ∧ 0 ≤ rh ∧ rh < 4294967296) (fun q rh => [(18, .int .u64 q), (16, .int .u64 rh)]) [(2, _), (8, _), (9, _), (10, _), (14, _), (15, _), (17, _)] (fun q rh => []) [] (fun q rh => (8589934592 - rh).toNat) (_) (_) (by exact ⟨rfl, rfl, trivial⟩) (by exact ⟨rfl, rfl, rfl, rfl, rfl, rfl, rfl, trivial⟩) (by exact trivial) ?_ ?_
              · exact ⟨hv1, hv2, by omega, by omega, by omega⟩
              · intro q rh L1 K1 e1 e2 hI
                dsimp only [apV, apR, List.cons_append, List.nil_append] at e1 e2
                subst e1 e2
                obtain ⟨hqa', hqb', hqe', hr0', hr1'⟩ := hI
                have hb' := mulq_bd (q := q) (y := Y % 4294967296) (by omega) hqb' (by omega) (by omega)
                have he'' : (q - 1) * (Y / 4294967296) + (rh + Y / 4294967296) = R := by
                  rw [Int.sub_mul, Int.one_mul]; omega
                iterate 2 (refine sq ?_)
                refine rg ?_
                iterate 3 (refine st (h := O) ?_)
                refine gD (fun g104 => ?_) (fun g104 => ?_)
                · have hlt3 : (R * 4294967296 + n0) / Y < q := by omega
                  iterate 8 (refine sp ?_)
                  refine st (h := O) ?_
                  refine nl ?_
                  refine cT ?_
                  refine sk ?_
                  refine bl ?_
                  refine sq ?_
                  refine rg ?_
                  refine st (h := O) ?_
                  refine st (h := suS) ?_
                  refine st (h := O) ?_
                  refine nl ?_
                  refine sq ?_
                  refine rg ?_
                  iterate 2 (refine st (h := O) ?_)
                  refine st (h := suA) ?_
                  refine st (h := O) ?_
                  refine nl ?_
                  refine sq ?_
                  refine rg ?_
                  iterate 2 (refine st (h := O) ?_)
                  refine nl ?_
                  refine cD (fun c6 => ?_) (fun c6 => ?_)
                  · have hdig2 : q - 1 = (R * 4294967296 + n0) / Y := by
                      have := dig_lo hYs (by omega) he'' (un1 := n0) (by
                        have := Int.mul_le_mul (show q - 1 ≤ 4294967296 by omega) (show Y % 4294967296 ≤ 4294967295 by omega) (by omega) (by omega : (0 : Int) ≤ 4294967296)
                        omega)
                      omega
                    rw [hdig2]
                    refine ex ?_
                    refine sq ?_
                    refine rg ?_
                    refine st (h := O) ?_
                    refine st (h := suM) ?_
                    refine st (h := O) ?_
                    refine st (h := suA) ?_
                    iterate 9 (refine st (h := O) ?_)
                    refine st (h := suShr s rfl (hb := rfl) (hn := by simp [IntKind.bits]; omega)) ?_
                    iterate 2 (refine st (h := O) ?_)
                    refine nl ?_
                    refine rt ⟨?_, rfl⟩
                    have eT : IntKind.u64.wrap (IntKind.u64.wrap (IntKind.u64.wrap (R * 4294967296) + n0) - IntKind.u64.wrap ((R * 4294967296 + n0) / Y * Y)) = (R * 4294967296 + n0) % Y := by
                      simp only [wrapu]
                      rw [Int.mul_comm ((R * 4294967296 + n0) / Y) Y]
                      generalize Y * ((R * 4294967296 + n0) / Y) = t at *
                      omega
                    rw [eT, hend1, hend2]
                  · refine sk ?_
                    refine bk ?_
                    refine bk2 (_) (_) (by exact ⟨rfl, rfl, trivial⟩) (by exact ⟨rfl, rfl, rfl, rfl, rfl, rfl, rfl, trivial⟩) (by exact trivial) ?_ ?_
                    · omega
                    · exact ⟨by omega, by omega, he'', by omega, by omega⟩
                · refine sg (h := O) ?_
                  refine sg (h := O) ?_
                  refine sg (h := suM) ?_
                  refine sg (h := O) ?_
                  refine sg (h := suM) ?_
                  refine sg (h := O) ?_
                  refine sg (h := suA) ?_
                  refine sg (h := O) ?_
                  refine st (h := O) ?_
                  refine nl ?_
                  refine cD (fun c5 => ?_) (fun c5 => ?_)
                  · have hlt3 : (R * 4294967296 + n0) / Y < q := dig_hi hYs (by omega) hqe' (by omega)
                    refine sk ?_
                    refine bl ?_
                    refine sq ?_
                    refine rg ?_
                    refine st (h := O) ?_
                    refine st (h := suS) ?_
                    refine st (h := O) ?_
                    refine nl ?_
                    refine sq ?_
                    refine rg ?_
                    iterate 2 (refine st (h := O) ?_)
                    refine st (h := suA) ?_
                    refine st (h := O) ?_
                    refine nl ?_
                    refine sq ?_
                    refine rg ?_
                    iterate 2 (refine st (h := O) ?_)
                    refine nl ?_
                    refine cD (fun c6 => ?_) (fun c6 => ?_)
                    · have hdig2 : q - 1 = (R * 4294967296 + n0) / Y := by
                        have := dig_lo hYs (by omega) he'' (un1 := n0) (by
                          have := Int.mul_le_mul (show q - 1 ≤ 4294967296 by omega) (show Y % 4294967296 ≤ 4294967295 by omega) (by omega) (by omega : (0 : Int) ≤ 4294967296)
                          omega)
                        omega
                      rw [hdig2]
                      refine ex ?_
                      refine sq ?_
                      refine rg ?_
                      refine st (h := O) ?_
                      refine st (h := suM) ?_
                      refine st (h := O) ?_
                      refine st (h := suA) ?_
                      iterate 9 (refine st (h := O) ?_)
                      refine st (h := suShr s rfl (hb := rfl) (hn := by simp [IntKind.bits]; omega)) ?_
                      iterate 2 (refine st (h := O) ?_)
                      refine nl ?_
                      refine rt ⟨?_, rfl⟩
                      have eT : IntKind.u64.wrap (IntKind.u64.wrap (IntKind.u64.wrap (R * 4294967296) + n0) - IntKind.u64.wrap ((R * 4294967296 + n0) / Y * Y)) = (R * 4294967296 + n0) % Y := by
                        simp only [wrapu]
                        rw [Int.mul_comm ((R * 4294967296 + n0) / Y) Y]
                        generalize Y * ((R * 4294967296 + n0) / Y) = t at *
                        omega
                      rw [eT, hend1, hend2]
                    · refine sk ?_
                      refine bk ?_
                      refine bk2 (_) (_) (by exact ⟨rfl, rfl, trivial⟩) (by exact ⟨rfl, rfl, rfl, rfl, rfl, rfl, rfl, trivial⟩) (by exact trivial) ?_ ?_
                      · omega
                      · exact ⟨by omega, by omega, he'', by omega, by omega⟩
                  · have hdig2 : q = (R * 4294967296 + n0) / Y := by
                      have := dig_lo hYs (by omega) hqe' (un1 := n0) (by omega)
                      omega
                    rw [hdig2]
                    refine ex ?_
                    refine sq ?_
                    refine rg ?_
                    refine st (h := O) ?_
                    refine st (h := suM) ?_
                    refine st (h := O) ?_
                    refine st (h := suA) ?_
                    iterate 9 (refine st (h := O) ?_)
                    refine st (h := suShr s rfl (hb := rfl) (hn := by simp [IntKind.bits]; omega)) ?_
                    iterate 2 (refine st (h := O) ?_)
                    refine nl ?_
                    refine rt ⟨?_, rfl⟩
                    have eT : IntKind.u64.wrap (IntKind.u64.wrap (IntKind.u64.wrap (R * 4294967296) + n0) - IntKind.u64.wrap ((R * 4294967296 + n0) / Y * Y)) = (R * 4294967296 + n0) % Y := by
                      simp only [wrapu]
                      rw [Int.mul_comm ((R * 4294967296 + n0) / Y) Y]
                      generalize Y * ((R * 4294967296 + n0) / Y) = t at *
                      omega
                    rw [eT, hend1, hend2]
def quoS (a b c : Int) : Int × Int × Bool × Bool := if amt a * amt b / 18446744073709551616 ≥ c then (0, 0, false, false) else (amt a * amt b / c, amt a * amt b % c, decide (a < 0) != decide (b < 0), decide (amt a * amt b / c ≤ 1099511627777))
theorem quotient_C (F : Mem) (a b c : Int) (ha : i64ok a) (hb : i64ok b) (hc : 1 ≤ c) (hc1 : c ≤ 9223372036854775807) : C0 Try.prog 46 [.int .i64 a, .int .i64 b, .int .i64 c] F
    (.tuple #[.int .u64 (quoS a b c).1, .int .u64 (quoS a b c).2.1, .bool (quoS a b c).2.2.1, .bool (quoS a b c).2.2.2]) := by
  have hp := prod_lt ha hb
  have h1 := amt_bd ha; have h2 := amt_bd hb
  have hs : ∀ G, C0 Try.prog 54 [.int .i64 a] G (.int .u64 (amt a)) := fun G => amount_C G a ha
  have ht : ∀ G, C0 Try.prog 54 [.int .i64 b] G (.int .u64 (amt b)) := fun G => amount_C G b hb
  have hpr : ∀ G, C0 Try.prog 53 [.int .u64 (amt a), .int .u64 (amt b)] G (.tuple #[.int .u64 (amt a * amt b / 18446744073709551616), .int .u64 (amt a * amt b % 18446744073709551616)]) := fun G => Mul64_C G _ _ h1.1 (by omega) h2.1 (by omega)
  have hdv : ¬ amt a * amt b / 18446744073709551616 ≥ c → ∀ G, C0 Try.prog 55 [.int .u64 (amt a * amt b / 18446744073709551616), .int .u64 (amt a * amt b % 18446744073709551616), .int .u64 c] G (.tuple #[.int .u64 (amt a * amt b / c), .int .u64 (amt a * amt b % c)]) := fun h G => by
    have := Div64_C G (amt a * amt b / 18446744073709551616) (amt a * amt b % 18446744073709551616) c (by omega) (by omega) (by omega) (by omega) (by omega)
    rwa [show amt a * amt b / 18446744073709551616 * 18446744073709551616 + amt a * amt b % 18446744073709551616 = amt a * amt b from by omega] at this
  unfold i64ok at ha hb
  unfold quoS
  generalize amt a = x at *
  generalize amt b = y at *
  generalize x * y = P at *
  refine C.go hT Try.func46 Try.ntmps46 ?_
  refine sq ?_
  refine rg ?_
  iterate 4 (refine st (h := O) ?_)
  refine nl ?_
  refine sq ?_
  refine rg ?_
  refine st (h := O) ?_
  refine cl (h := by exact fun ι hV hl => hs _) ?_
  refine st (h := O) ?_
  refine cl (h := by exact fun ι hV hl => ht _) ?_
  refine cl (h := by exact fun ι hV hl => hpr _) ?_
  iterate 5 (refine st (h := O) ?_)
  refine nl ?_
  iterate 2 (refine sq ?_)
  refine rg ?_
  iterate 2 (refine st (h := O) ?_)
  refine st (h := suC) ?_
  refine st (h := O) ?_
  refine nl ?_
  refine cD (fun c0 => ?_) (fun c0 => ?_)
  · refine sq ?_
    refine rg ?_
    iterate 4 (refine st (h := O) ?_)
    refine nl ?_
    refine rt ⟨?_, rfl⟩
    rw [if_pos c0]
  · refine sk ?_
    refine sq ?_
    refine rg ?_
    iterate 3 (refine st (h := O) ?_)
    refine st (h := suC) ?_
    refine cl (h := by exact fun ι hV hl => hdv (by omega) _) ?_
    iterate 5 (refine st (h := O) ?_)
    refine nl ?_
    refine sq ?_
    refine rg ?_
    iterate 6 (refine st (h := O) ?_)
    refine st (h := sbNe) ?_
    iterate 6 (refine st (h := O) ?_)
    refine nl ?_
    refine rt ⟨?_, rfl⟩
    rw [if_neg c0]
theorem keptS_out {x : Int} {b : Bool} (h : b = false ∨ ¬ (-1099511627776 ≤ x ∧ x ≤ 1099511627776)) : keptS x b = (0, false) := by
  unfold keptS
  rcases h with h | h
  · rw [if_neg (by rw [h]; decide)]
  · split
    · exact keepS_out h
    · rfl
theorem Scale_C (F : Mem) (a b c : Int) (ha : i64ok a) (hb : i64ok b) (hc : i64ok c) : C0 Try.prog 38 [.int .i64 a, .int .i64 b, .int .i64 c] F (.tuple #[.int .i64 (scaleS a b c).1, .bool (scaleS a b c).2]) := by
  by_cases c1 : c < 1
  · rw [scaleS, if_pos c1]
    refine C.go hT Try.func38 Try.ntmps38 ?_
    refine sq ?_
    refine rg ?_
    iterate 2 (refine st (h := O) ?_)
    refine nl ?_
    iterate 2 (refine sq ?_)
    refine rg ?_
    iterate 2 (refine st (h := O) ?_)
    refine nl ?_
    refine cD (fun c0 => ?_) (fun c0 => ?_)
    · refine sq ?_
      refine rg ?_
      iterate 2 (refine st (h := O) ?_)
      refine nl ?_
      exact rt ⟨rfl, rfl⟩
    · exact absurd c1 c0
  · rw [scaleS, if_neg c1]
    have hp := prod_lt ha hb
    have hab := ab_of a b
    have hn := near_neg (P := amt a * amt b) (c := c) (by omega)
    have hpo := near_pos (P := amt a * amt b) (c := c) (by omega)
    have hq0 : 0 ≤ amt a * amt b / c := Int.ediv_nonneg hp.1 (by omega)
    have hr0 := Int.emod_nonneg (amt a * amt b) (by omega : c ≠ 0)
    have hr1 := Int.emod_lt_of_pos (amt a * amt b) (by omega : 0 < c)
    have hbig := big_q (P := amt a * amt b) (c := c) (by omega)
    have hqt : ∀ G, _ := fun G => quotient_C G a b c ha hb (by omega) hc.2
    have hqu : quoS a b c = if amt a * amt b / 18446744073709551616 ≥ c then (0, 0, false, false) else (amt a * amt b / c, amt a * amt b % c, decide (a < 0) != decide (b < 0), decide (amt a * amt b / c ≤ 1099511627777)) := rfl
    have hu : ¬ amt a * amt b / 18446744073709551616 ≥ c → amt a * amt b / c < 18446744073709551616 := fun h => by
      rw [Int.ediv_lt_iff_lt_mul (by omega)]; omega
    unfold i64ok at ha hb hc
    have hv : (2 * (a * b) + c) / (2 * c) = if (decide (a < 0) != decide (b < 0)) = true then -(amt a * amt b / c + (if 2 * (amt a * amt b % c) > c then 1 else 0)) else amt a * amt b / c + (if 2 * (amt a * amt b % c) ≥ c then 1 else 0) := by
      rw [hab]
      by_cases h : (decide (a < 0) != decide (b < 0)) = true
      · rw [if_pos h, if_pos h]; exact hn
      · rw [if_neg h, if_neg h]; exact hpo
    rw [hv]
    clear hv hn hpo hab
    generalize (decide (a < 0) != decide (b < 0)) = s at *
    generalize amt a * amt b / c = q at *
    generalize amt a * amt b % c = r at *
    generalize amt a * amt b / 18446744073709551616 = ph at *
    by_cases hcase : ph ≥ c
    · rw [if_pos hcase] at hqu
      rw [hqu] at hqt
      dsimp only at hqt
      have hq := hbig hcase
      have hout : keepS (if s = true then -(q + (if 2 * r > c then 1 else 0)) else q + (if 2 * r ≥ c then 1 else 0)) = (0, false) := by
        refine keepS_out ?_
        (repeat' split) <;> omega
      rw [hout]
      refine C.go hT Try.func38 Try.ntmps38 ?_
      refine sq ?_
      refine rg ?_
      iterate 2 (refine st (h := O) ?_)
      refine nl ?_
      iterate 2 (refine sq ?_)
      refine rg ?_
      iterate 2 (refine st (h := O) ?_)
      refine nl ?_
      refine cD (fun c0 => ?_) (fun c0 => ?_)
      · exact absurd c0 c1
      · refine sk ?_
        refine sq ?_
        refine rg ?_
        iterate 3 (refine st (h := O) ?_)
        refine cl (h := by exact fun ι hV hl => hqt _) ?_
        iterate 9 (refine st (h := O) ?_)
        refine nl ?_
        refine sq ?_
        refine rg ?_
        refine st (h := O) ?_
        refine st (h := suC) ?_
        refine st (h := O) ?_
        refine st (h := suS) ?_
        refine st (h := O) ?_
        refine nl ?_
        iterate 2 (refine sq ?_)
        refine rg ?_
        iterate 2 (refine st (h := O) ?_)
        refine gB (fun g29 => ?_) (fun g29 => ?_)
        · cases g29
        · refine sp ?_
          iterate 2 (refine sp ?_)
          iterate 2 (refine st (h := O) ?_)
          iterate 3 (refine sg (h := O) ?_)
          refine gB (fun g37 => ?_) (fun g37 => ?_)
          · refine sg (h := O) ?_
            iterate 3 (refine sg (h := O) ?_)
            refine gD (fun g41 => ?_) (fun g41 => ?_)
            · exact absurd g41 (by decide)
            · refine sp ?_
              iterate 2 (refine sp ?_)
              refine sg (h := O) ?_
              refine st (h := O) ?_
              refine nl ?_
              refine cF ?_
              refine sk ?_
              refine sq ?_
              refine rg ?_
              iterate 2 (refine st (h := O) ?_)
              refine cl (h := by exact fun ι hV hl => signed_C _ _ _) ?_
              refine st (h := O) ?_
              refine cl (h := by exact fun ι hV hl => kept_C _ _ _) ?_
              iterate 4 (refine st (h := O) ?_)
              refine nl ?_
              refine rt ⟨?_, rfl⟩
              rw [keptS_out (.inl rfl)]
          · cases g37
    · rw [if_neg hcase] at hqu
      rw [hqu] at hqt
      dsimp only at hqt
      have hq64 := hu hcase
      have hfin : ∀ (up : Bool) (d : Int), (d = if up = true then 1 else 0) → (if s = true then -(q + (if 2 * r > c then 1 else 0)) else q + (if 2 * r ≥ c then 1 else 0)) = (if s = true then -(q + d) else q + d) → keptS (sgnD (IntKind.u64.wrap (q + d)) s) (decide (q ≤ 1099511627777)) = keepS (if s = true then -(q + (if 2 * r > c then 1 else 0)) else q + (if 2 * r ≥ c then 1 else 0)) := fun up d hd he => by
        rw [he]
        by_cases hle : q ≤ 1099511627777
        · have hd1 : 0 ≤ d ∧ d ≤ 1 := by rw [hd]; split <;> omega
          rw [wrapu, show (q + d) % 18446744073709551616 = q + d from by omega, sgnD_in (by omega) (by omega), keptS, if_pos (by simpa using hle)]
        · have hd1 : 0 ≤ d ∧ d ≤ 1 := by rw [hd]; split <;> omega
          rw [keptS_out (.inl (by simpa using hle)), keepS_out]
          split <;> omega
      refine C.go hT Try.func38 Try.ntmps38 ?_
      refine sq ?_
      refine rg ?_
      iterate 2 (refine st (h := O) ?_)
      refine nl ?_
      iterate 2 (refine sq ?_)
      refine rg ?_
      iterate 2 (refine st (h := O) ?_)
      refine nl ?_
      refine cD (fun c0 => ?_) (fun c0 => ?_)
      · exact absurd c0 c1
      · refine sk ?_
        refine sq ?_
        refine rg ?_
        iterate 3 (refine st (h := O) ?_)
        refine cl (h := by exact fun ι hV hl => hqt _) ?_
        iterate 9 (refine st (h := O) ?_)
        refine nl ?_
        refine sq ?_
        refine rg ?_
        refine st (h := O) ?_
        refine st (h := suC) ?_
        refine st (h := O) ?_
        refine st (h := suS) ?_
        refine st (h := O) ?_
        refine nl ?_
        iterate 2 (refine sq ?_)
        refine rg ?_
        iterate 2 (refine st (h := O) ?_)
        refine gB (fun g29 => ?_) (fun g29 => ?_)
        · subst g29
          iterate 3 (refine sg (h := O) ?_)
          iterate 2 (refine st (h := O) ?_)
          refine gD (fun g34 => ?_) (fun g34 => ?_)
          · refine sp ?_
            iterate 2 (refine sp ?_)
            iterate 2 (refine su ?_)
            iterate 2 (refine sp ?_)
            iterate 3 (refine su ?_)
            refine sp ?_
            refine st (h := O) ?_
            refine nl ?_
            refine cT ?_
            refine rg ?_
            iterate 3 (refine st (h := O) ?_)
            refine nl ?_
            refine sq ?_
            refine rg ?_
            iterate 2 (refine st (h := O) ?_)
            refine cl (h := by exact fun ι hV hl => signed_C _ _ _) ?_
            refine st (h := O) ?_
            refine cl (h := by exact fun ι hV hl => kept_C _ _ _) ?_
            iterate 4 (refine st (h := O) ?_)
            refine nl ?_
            refine rt ⟨?_, rfl⟩
            first
              | (have h1 := hfin true 1 rfl (by simp only [Bool.false_eq_true, if_true, if_false]; first | rw [if_pos (by omega)] | rw [if_neg (by omega)])
                 rw [h1])
              | (have h1 := hfin false 0 rfl (by simp only [Bool.false_eq_true, if_true, if_false]; first | rw [if_neg (by omega)] | rw [if_pos (by omega)])
                 rw [Int.add_zero, wrapu, show q % 18446744073709551616 = q from by omega] at h1
                 rw [h1])
          · refine sg (h := O) ?_
            iterate 2 (refine sg (h := O) ?_)
            refine gB (fun g37 => ?_) (fun g37 => ?_)
            · try exact absurd g37 (by decide)
              all_goals
                iterate 4 (refine sg (h := O) ?_)
                refine gD (fun g41 => ?_) (fun g41 => ?_)
                · refine sg (h := O) ?_
                  iterate 3 (refine sg (h := O) ?_)
                  refine st (h := O) ?_
                  refine nl ?_
                  refine cD (fun c1 => ?_) (fun c1 => ?_)
                  · refine rg ?_
                    iterate 3 (refine st (h := O) ?_)
                    refine nl ?_
                    refine sq ?_
                    refine rg ?_
                    iterate 2 (refine st (h := O) ?_)
                    refine cl (h := by exact fun ι hV hl => signed_C _ _ _) ?_
                    refine st (h := O) ?_
                    refine cl (h := by exact fun ι hV hl => kept_C _ _ _) ?_
                    iterate 4 (refine st (h := O) ?_)
                    refine nl ?_
                    refine rt ⟨?_, rfl⟩
                    first
                      | (have h1 := hfin true 1 rfl (by simp only [Bool.false_eq_true, if_true, if_false]; first | rw [if_pos (by omega)] | rw [if_neg (by omega)])
                         rw [h1])
                      | (have h1 := hfin false 0 rfl (by simp only [Bool.false_eq_true, if_true, if_false]; first | rw [if_neg (by omega)] | rw [if_pos (by omega)])
                         rw [Int.add_zero, wrapu, show q % 18446744073709551616 = q from by omega] at h1
                         rw [h1])
                  · refine sk ?_
                    refine sq ?_
                    refine rg ?_
                    iterate 2 (refine st (h := O) ?_)
                    refine cl (h := by exact fun ι hV hl => signed_C _ _ _) ?_
                    refine st (h := O) ?_
                    refine cl (h := by exact fun ι hV hl => kept_C _ _ _) ?_
                    iterate 4 (refine st (h := O) ?_)
                    refine nl ?_
                    refine rt ⟨?_, rfl⟩
                    first
                      | (have h1 := hfin true 1 rfl (by simp only [Bool.false_eq_true, if_true, if_false]; first | rw [if_pos (by omega)] | rw [if_neg (by omega)])
                         rw [h1])
                      | (have h1 := hfin false 0 rfl (by simp only [Bool.false_eq_true, if_true, if_false]; first | rw [if_neg (by omega)] | rw [if_pos (by omega)])
                         rw [Int.add_zero, wrapu, show q % 18446744073709551616 = q from by omega] at h1
                         rw [h1])
                · refine sp ?_
                  iterate 2 (refine sp ?_)
                  refine sg (h := O) ?_
                  refine st (h := O) ?_
                  refine nl ?_
                  refine cF ?_
                  refine sk ?_
                  refine sq ?_
                  refine rg ?_
                  iterate 2 (refine st (h := O) ?_)
                  refine cl (h := by exact fun ι hV hl => signed_C _ _ _) ?_
                  refine st (h := O) ?_
                  refine cl (h := by exact fun ι hV hl => kept_C _ _ _) ?_
                  iterate 4 (refine st (h := O) ?_)
                  refine nl ?_
                  refine rt ⟨?_, rfl⟩
                  first
                    | (have h1 := hfin true 1 rfl (by simp only [Bool.false_eq_true, if_true, if_false]; first | rw [if_pos (by omega)] | rw [if_neg (by omega)])
                       rw [h1])
                    | (have h1 := hfin false 0 rfl (by simp only [Bool.false_eq_true, if_true, if_false]; first | rw [if_neg (by omega)] | rw [if_pos (by omega)])
                       rw [Int.add_zero, wrapu, show q % 18446744073709551616 = q from by omega] at h1
                       rw [h1])
            · try exact absurd g37 (by decide)
              all_goals
                iterate 2 (refine sp ?_)
                iterate 2 (refine sg (h := O) ?_)
                iterate 3 (refine sp ?_)
                refine sg (h := O) ?_
                refine st (h := O) ?_
                refine nl ?_
                refine cF ?_
                refine sk ?_
                refine sq ?_
                refine rg ?_
                iterate 2 (refine st (h := O) ?_)
                refine cl (h := by exact fun ι hV hl => signed_C _ _ _) ?_
                refine st (h := O) ?_
                refine cl (h := by exact fun ι hV hl => kept_C _ _ _) ?_
                iterate 4 (refine st (h := O) ?_)
                refine nl ?_
                refine rt ⟨?_, rfl⟩
                first
                  | (have h1 := hfin true 1 rfl (by simp only [Bool.false_eq_true, if_true, if_false]; first | rw [if_pos (by omega)] | rw [if_neg (by omega)])
                     rw [h1])
                  | (have h1 := hfin false 0 rfl (by simp only [Bool.false_eq_true, if_true, if_false]; first | rw [if_neg (by omega)] | rw [if_pos (by omega)])
                     rw [Int.add_zero, wrapu, show q % 18446744073709551616 = q from by omega] at h1
                     rw [h1])
        · subst g29
          iterate 3 (refine sp ?_)
          iterate 2 (refine st (h := O) ?_)
          iterate 3 (refine sg (h := O) ?_)
          refine gB (fun g37 => ?_) (fun g37 => ?_)
          · try exact absurd g37 (by decide)
            all_goals
              iterate 4 (refine sg (h := O) ?_)
              refine gD (fun g41 => ?_) (fun g41 => ?_)
              · refine sg (h := O) ?_
                iterate 3 (refine sg (h := O) ?_)
                refine st (h := O) ?_
                refine nl ?_
                refine cD (fun c1 => ?_) (fun c1 => ?_)
                · refine rg ?_
                  iterate 3 (refine st (h := O) ?_)
                  refine nl ?_
                  refine sq ?_
                  refine rg ?_
                  iterate 2 (refine st (h := O) ?_)
                  refine cl (h := by exact fun ι hV hl => signed_C _ _ _) ?_
                  refine st (h := O) ?_
                  refine cl (h := by exact fun ι hV hl => kept_C _ _ _) ?_
                  iterate 4 (refine st (h := O) ?_)
                  refine nl ?_
                  refine rt ⟨?_, rfl⟩
                  first
                    | (have h1 := hfin true 1 rfl (by simp only [Bool.false_eq_true, if_true, if_false]; first | rw [if_pos (by omega)] | rw [if_neg (by omega)])
                       rw [h1])
                    | (have h1 := hfin false 0 rfl (by simp only [Bool.false_eq_true, if_true, if_false]; first | rw [if_neg (by omega)] | rw [if_pos (by omega)])
                       rw [Int.add_zero, wrapu, show q % 18446744073709551616 = q from by omega] at h1
                       rw [h1])
                · refine sk ?_
                  refine sq ?_
                  refine rg ?_
                  iterate 2 (refine st (h := O) ?_)
                  refine cl (h := by exact fun ι hV hl => signed_C _ _ _) ?_
                  refine st (h := O) ?_
                  refine cl (h := by exact fun ι hV hl => kept_C _ _ _) ?_
                  iterate 4 (refine st (h := O) ?_)
                  refine nl ?_
                  refine rt ⟨?_, rfl⟩
                  first
                    | (have h1 := hfin true 1 rfl (by simp only [Bool.false_eq_true, if_true, if_false]; first | rw [if_pos (by omega)] | rw [if_neg (by omega)])
                       rw [h1])
                    | (have h1 := hfin false 0 rfl (by simp only [Bool.false_eq_true, if_true, if_false]; first | rw [if_neg (by omega)] | rw [if_pos (by omega)])
                       rw [Int.add_zero, wrapu, show q % 18446744073709551616 = q from by omega] at h1
                       rw [h1])
              · refine sp ?_
                iterate 2 (refine sp ?_)
                refine sg (h := O) ?_
                refine st (h := O) ?_
                refine nl ?_
                refine cF ?_
                refine sk ?_
                refine sq ?_
                refine rg ?_
                iterate 2 (refine st (h := O) ?_)
                refine cl (h := by exact fun ι hV hl => signed_C _ _ _) ?_
                refine st (h := O) ?_
                refine cl (h := by exact fun ι hV hl => kept_C _ _ _) ?_
                iterate 4 (refine st (h := O) ?_)
                refine nl ?_
                refine rt ⟨?_, rfl⟩
                first
                  | (have h1 := hfin true 1 rfl (by simp only [Bool.false_eq_true, if_true, if_false]; first | rw [if_pos (by omega)] | rw [if_neg (by omega)])
                     rw [h1])
                  | (have h1 := hfin false 0 rfl (by simp only [Bool.false_eq_true, if_true, if_false]; first | rw [if_neg (by omega)] | rw [if_pos (by omega)])
                     rw [Int.add_zero, wrapu, show q % 18446744073709551616 = q from by omega] at h1
                     rw [h1])
          · try exact absurd g37 (by decide)
            all_goals
              iterate 2 (refine sp ?_)
              iterate 2 (refine sg (h := O) ?_)
              iterate 3 (refine sp ?_)
              refine sg (h := O) ?_
              refine st (h := O) ?_
              refine nl ?_
              refine cF ?_
              refine sk ?_
              refine sq ?_
              refine rg ?_
              iterate 2 (refine st (h := O) ?_)
              refine cl (h := by exact fun ι hV hl => signed_C _ _ _) ?_
              refine st (h := O) ?_
              refine cl (h := by exact fun ι hV hl => kept_C _ _ _) ?_
              iterate 4 (refine st (h := O) ?_)
              refine nl ?_
              refine rt ⟨?_, rfl⟩
              first
                | (have h1 := hfin true 1 rfl (by simp only [Bool.false_eq_true, if_true, if_false]; first | rw [if_pos (by omega)] | rw [if_neg (by omega)])
                   rw [h1])
                | (have h1 := hfin false 0 rfl (by simp only [Bool.false_eq_true, if_true, if_false]; first | rw [if_neg (by omega)] | rw [if_pos (by omega)])
                   rw [Int.add_zero, wrapu, show q % 18446744073709551616 = q from by omega] at h1
                   rw [h1])

end Go.Proofs.Ytfcckfiipbdnkaa.Am
namespace Go.Proofs.Ytfcckfiipbdnkaa.Am
set_option linter.unusedSimpArgs false
set_option linter.unusedVariables false
open Go Go.RowKit
/-! Rows of bytes and texts, told by whole numbers. -/
def bvs (ns : List Int) : List Value := ns.map (Value.int .u8)
def tx (ns : List Int) : ByteArray := strOfNums ns
theorem bvs_length (ns : List Int) : (bvs ns).length = ns.length := by simp [bvs]
theorem bvs_append (a b : List Int) : bvs (a ++ b) = bvs a ++ bvs b := by simp [bvs]
theorem bvs_pl (ns : List Int) : ∀ v ∈ bvs ns, plain1 v = true := fun v hv => by obtain ⟨y, _, rfl⟩ := List.mem_map.1 hv; rfl
theorem bvs_one (ns : List Int) : ∀ v ∈ bvs ns, v.oneCell' = true := fun v hv => by obtain ⟨y, _, rfl⟩ := List.mem_map.1 hv; rfl
theorem bvs_nt (ns : List Int) (t : Nat) : (bvs ns).all (nt1 t) = true := List.all_eq_true.2 fun v hv => by obtain ⟨y, _, rfl⟩ := List.mem_map.1 hv; rfl
theorem bvs_allp (ns : List Int) : (bvs ns).all plain1 = true := List.all_eq_true.2 (bvs_pl ns)
theorem bvs_c (ns : List Int) (ι : Nat → Nat) : (bvs ns).map (c1 ι) = bvs ns := by
  unfold bvs
  rw [List.map_map]
  exact List.map_congr_left fun b _ => rfl
theorem bvs_get {ns : List Int} {i : Nat} {x : Int} (h : ns[i]? = some x) : (bvs ns)[i]? = some (.int .u8 x) := by simp [bvs, h]
theorem tx_size (ns : List Int) : (tx ns).size = ns.length := strOfNums_size ns
theorem tx_append (a b : List Int) : tx (a ++ b) = tx a ++ tx b := by
  apply ByteArray.ext
  simp [tx, strOfNums, ByteArray.data_append]
def bys (ns : List Int) : Prop := ∀ n ∈ ns, 0 ≤ n ∧ n < 256
theorem bys.append {a b : List Int} (ha : bys a) (hb : bys b) : bys (a ++ b) := fun n hn => (List.mem_append.1 hn).elim (ha n) (hb n)
theorem bytesV_tx {ns : List Int} (h : bys ns) : bytesV (tx ns) = bvs ns := by
  simp only [bytesV, tx, strOfNums_data, bvs, List.map_map]
  refine List.map_congr_left fun n hn => ?_
  have := h n hn
  simp only [Function.comp_apply, Value.int.injEq, true_and]
  rw [UInt8.toNat_ofNat_of_lt' (by show n.toNat < 256; omega)]
  omega
theorem byteAt_tx {ns : List Int} {i : Nat} (h : bys ns) (hi : i < ns.length) : byteAt (tx ns) i = ns.getD i 0 := by
  have e := h _ (List.getElem_mem hi)
  simp only [byteAt, tx, strOfNums_data, List.getD_eq_getElem?_getD, List.getElem?_map, List.getElem?_eq_getElem hi, Option.map_some, Option.getD_some]
  rw [UInt8.toNat_ofNat_of_lt' (by show (ns[i]).toNat < 256; omega)]
  omega
/-- the numbers of a text -/
def nos (s : ByteArray) : List Int := s.data.toList.map fun b => (b.toNat : Int)
theorem nos_length (s : ByteArray) : (nos s).length = s.size := by simp [nos]
theorem bytesV_nos (s : ByteArray) : bytesV s = bvs (nos s) := by simp [bytesV, bvs, nos]
theorem nos_bys (s : ByteArray) : bys (nos s) := fun n hn => by
  obtain ⟨b, _, rfl⟩ := List.mem_map.1 hn
  have := b.toNat_lt
  omega
theorem tx_nos (s : ByteArray) : tx (nos s) = s := by
  apply ByteArray.ext
  simp only [tx, strOfNums, nos, List.map_map]
  have : (s.data.toList.map ((fun n : Int => UInt8.ofNat n.toNat) ∘ fun b : UInt8 => (b.toNat : Int))) = s.data.toList := by
    conv => rhs; rw [← List.map_id s.data.toList]
    exact List.map_congr_left fun b _ => by simp
  rw [this]
theorem nos_tx {ns : List Int} (h : bys ns) : nos (tx ns) = ns := by
  have := bytesV_tx h
  rw [bytesV_nos] at this
  have h2 : ∀ a b : List Int, bvs a = bvs b → a = b := fun a b e => by
    have := congrArg (List.map fun v => match v with | Value.int _ n => n | _ => 0) e
    simpa [bvs, Function.comp_def] using this
  exact h2 _ _ this
/-- numbers, put in from a place on -/
def putI (ms : List Int) (o : Nat) : List Int → List Int
  | [] => ms
  | n :: ns => putI (ms.set o n) (o + 1) ns
theorem putI_length : ∀ (ns ms : List Int) (o : Nat), (putI ms o ns).length = ms.length
  | [], _, _ => rfl
  | n :: ns, ms, o => by rw [putI, putI_length ns, List.length_set]
theorem bvs_put : ∀ (ns ms : List Int) (o : Nat), putL (bvs ms) o (bvs ns) = bvs (putI ms o ns)
  | [], _, _ => rfl
  | n :: ns, ms, o => by
    show putL ((bvs ms).set o (.int .u8 n)) (o + 1) (bvs ns) = _
    rw [show (bvs ms).set o (.int .u8 n) = bvs (ms.set o n) from by simp [bvs, List.map_set], bvs_put ns]
    rfl
theorem putI_app : ∀ (ns a b : List Int) (o : Nat), a.length = o → putI (a ++ b) o ns = a ++ putI b 0 ns
  | [], _, _, _, _ => rfl
  | n :: ns, a, b, o, h => by
    subst h
    cases b with
    | nil =>
      have h0 : ∀ (l : List Int) (o : Nat), putI [] o l = [] := fun l => by
        induction l with
        | nil => intro o; rfl
        | cons x l ih => intro o; exact ih _
      have h1 : ∀ (l c : List Int) (o : Nat), c.length ≤ o → putI c o l = c := fun l => by
        induction l with
        | nil => intro c o _; rfl
        | cons x l ih =>
          intro c o hc
          rw [putI, List.set_eq_of_length_le hc]
          exact ih c _ (by omega)
      rw [List.append_nil, h1 _ _ _ (Nat.le_refl _), h0, List.append_nil]
    | cons y b =>
      rw [putI, show (a ++ y :: b).set a.length n = (a ++ [n]) ++ b from by simp, putI_app ns _ b _ (by simp), List.append_assoc]
      congr 1
      show _ = putI ((y :: b).set 0 n) (0 + 1) ns
      rw [show ((y :: b).set 0 n) = [n] ++ b from rfl, putI_app ns [n] b 1 rfl]
theorem zer_bvs {ti : Ty} (h : ti.zero = [.int .u8 0]) (n : Nat) : zer ti n = bvs (List.replicate n 0) := by
  rw [zer_one h, bvs, List.map_replicate]
section
variable {F : Mem} {K : Own} {L : Slots}
theorem rdN_bvs {u n : Nat} {ns : List Int} {r : Row} (hr : K.lookup u = some r) (hcs : r.cs = bvs ns) (hn : n = ns.length) : rdN F K ⟨u, 0, some 0⟩ n = some (bvs ns) := by
  subst hn
  simp only [rdN, hr, hcs, bvs_length, Nat.zero_add, Nat.le_refl, if_true, List.drop_zero]
  rw [List.take_of_length_le (by rw [bvs_length]; exact Nat.le_refl _)]
/-- the text of a row of bytes -/
theorem sdTx {sty ty el : TypeId} {x : Operand} {u n c : Nat} {ns : List Int} {r : Row} {ts ti tj : Ty} (hss : Θ.lookup ty = some ts := by rfl) (hks : ts.k = .string := by rfl) (hi : Θ.lookup sty = some ti := by rfl) (hk : ti.k = .slice el := by rfl) (hj : Θ.lookup el = some tj := by rfl) (hkj : tj.k = .int .u8 := by rfl)
    (hx : evO L x = some (.slice (some ⟨u, 0, some 0⟩) n c) := by rfl) (hrr : K.lookup u = some r := by rfl) (hcs : r.cs = bvs ns := by rfl) (hn : n = ns.length := by first | rfl | omega) : SD Try.prog F K L (.convert sty ty x) (.string (tx ns)) := by
  have hr : rdN F K ⟨u, 0, some 0⟩ n = some (bvs ns) := rdN_bvs hrr hcs hn
  intro ι ρ he o' ho w hS
  obtain ⟨dst, op, type, pos, after, guard⟩ := o'
  simp only at ho
  subst ho
  obtain ⟨dd, hdd, hkd⟩ := (tab_ty hT hi).und
  rw [hk] at hkd
  cases dd <;> try (simp [kindB] at hkd; done)
  simp only [kindB, beq_iff_eq] at hkd
  subst hkd
  obtain ⟨ds, hds, hks'⟩ := (tab_ty hT hss).und
  rw [hks] at hks'
  cases ds <;> try (simp [kindB] at hks'; done)
  obtain ⟨de, hde, hke⟩ := (tab_ty hT hj).und
  rw [hkj] at hke
  cases de <;> try (simp [kindB] at hke; done)
  simp only [kindB, beq_iff_eq] at hke
  subst hke
  obtain ⟨h1, h2⟩ := hS.rdN hr
  have hl := run_loadCells_list (P := Try.prog) (w := w) (cA ι ⟨u, 0, some 0⟩) ((bvs ns).map (c1 ι)) h2
  rw [List.length_map, h1, bvs_c] at hl
  simp only [execOp, he _ _ hx, cV_slice, Sem.run_bind]
  rw [run_convert_bytes_string w _ _ _ _ _ _ hdd hde hds, run_bytesToString w _ n c ns hl, foldl_push_bytes]
  simp only [Result.andThen_ok, Sem.run_pure, cV_string, Result.ok.injEq, Next.value.injEq, Value.string.injEq, and_true]
  apply ByteArray.ext
  simp [ByteArray.empty, ByteArray.emptyWithCapacity, tx, strOfNums]
  rfl
/-- two texts, one behind the other -/
theorem sdCt {t t' : TypeId} {x y : Operand} {a b : ByteArray} (hx : evO L x = some (.string a) := by rfl) (hy : evO L y = some (.string b) := by rfl) (h : a.size + b.size ≤ 9223372036854775807 := by simp only [tx_size, ByteArray.size_append, List.length_append, List.length_replicate, List.length_cons, List.length_nil]; omega) : SD Try.prog F K L (.binOp .add t x y t') (.string (a ++ b)) := by
  intro ι ρ he o' ho w hS
  obtain ⟨dst, op, type, pos, after, guard⟩ := o'
  simp only at ho
  subst ho
  simp [execOp, he _ _ hx, he _ _ hy, binOp, eqGuard, run_string_add_sum w a b h]
theorem sdCut {t : TypeId} {x : Operand} {lo hi : Option Operand} {s : ByteArray} (l h : Nat) {ti : Ty} (hx : evO L x = some (.string s) := by rfl) (ht : Θ.lookup t = some ti := by rfl) (hk : ti.k = .string := by rfl)
    (hlo : match lo with | some y => ∃ k, evO L y = some (.int k (l : Int)) | none => l = 0 := by first | rfl | exact ⟨_, rfl⟩) (hhi : match hi with | some y => ∃ k, evO L y = some (.int k (h : Int)) | none => h = s.size := by first | rfl | exact ⟨_, rfl⟩) (h0 : l ≤ h := by omega) (h1 : h ≤ s.size := by omega) :
    SD Try.prog F K L (.slice t x lo hi none) (.string (s.extract l h)) := SD.cutStr hT ht hk hx hlo hhi h0 h1
/-- the rest of an own row, from a place on -/
theorem sdCutB {t el : TypeId} {x : Operand} {y : Operand} {u n c : Nat} (l : Nat) {k : IntKind} {ti tj : Ty} (hx : evO L x = some (.slice (some ⟨u, 0, some 0⟩) n c) := by rfl) (hy : evO L y = some (.int k (l : Int)) := by rfl) (ht : Θ.lookup t = some ti := by rfl) (hk : ti.k = .slice el := by rfl) (hj : Θ.lookup el = some tj := by rfl) (hz : tj.size = 1 := by rfl)
    (h0 : l ≤ n := by omega) (h1 : n ≤ c := by omega) (h2 : l < c := by omega) : SD Try.prog F K L (.slice t x (some y) none none) (.slice (some ⟨u, l, some 0⟩) (n - l) (c - l)) := by
  have := SD.cutS (P := Try.prog) (F := F) (K := K) (L := L) hT ht hk hj hx (lo := some y) (hi := none) (l := l) (h := n) ⟨k, hy⟩ rfl h0 h1
  rw [if_neg (by omega), hz, Nat.mul_one] at this
  have e : addA ⟨u, 0, some 0⟩ l = ⟨u, l, some 0⟩ := by simp [addA]
  rw [e] at this
  exact this
end
section
variable {X : Cx} {F : Mem} {L : Slots} {K : Own} {s : List SI} {ops : Array Oper} {o : Oper} {l : List Oper}
theorem row_bvs {r : Row} {ms ns : List Int} {off : Nat} (hcs : r.cs = bvs ms) (hfl : r.flat = true) : ({ r with cs := putL r.cs off (bvs ns), flat := r.flat && (bvs ns).all plain1 } : Row) = { r with cs := bvs (putI ms off ns), flat := true } := by
  rw [hcs, bvs_put, hfl, bvs_allp]; rfl
/-- a byte, stored in an own row of bytes -/
theorem soB {Θ : Tab} {ty : TypeId} {x y : Operand} {t off : Nat} {n : Int} {ms : List Int} {r : Row} {ti : Ty} (hk : JL X ops l s F L (setK t { r with cs := bvs (putI ms off [n]), flat := true } K))
    (hg : o.guard = none := by rfl) (ho : o.op = .store ty x y := by rfl) (hd : o.dst = none := by rfl) (hθ : tabOk X.P Θ = true := by exact hT) (hi : Θ.lookup ty = some ti := by rfl)
    (hx : evO L x = some (.pointer (some ⟨t, off, some 0⟩)) := by rfl) (hy : evO L y = some (.int .u8 n) := by rfl) (hr : K.lookup t = some r := by rfl) (hcs : r.cs = bvs ms := by rfl) (hfl : r.flat = true := by rfl) (hsz : ti.size = 1 := by rfl) (hle : off + 1 ≤ ms.length := by (try simp only [putI_length]); omega) : JL X ops (o :: l) s F L K := by
  refine so (v := .int .u8 n) ?_ hg ho hd hθ hi hx hy rfl hr (by rw [hsz]; rfl) (by rw [hcs, bvs_length]; exact hle)
  have := row_bvs (ns := [n]) (off := off) hcs hfl
  rw [show cellsL (.int .u8 n) = bvs [n] from rfl, this]
  exact hk
/-- a text, copied into an own row of bytes -/
theorem cpB {Θ : Tab} {ty ty' el : TypeId} {x y : Operand} {d t off n c : Nat} {sv : ByteArray} (ns : List Int) {ms : List Int} {r : Row} {ti tj : Ty} (hk : JL X ops l s F ((d, .int .i64 ns.length) :: L) (setK t { r with cs := bvs (putI ms off ns), flat := true } K))
    (hns : bytesV sv = bvs ns := by rfl) (hg : o.guard = none := by rfl) (ho : o.op = .call ⟨.builtin .copy, #[x, y], #[ty, ty']⟩ := by rfl) (hd : o.dst = some d := by rfl) (hN : d < X.N := by exact Nat.le_of_ble_eq_true rfl) (hθ : tabOk X.P Θ = true := by exact hT) (hi : Θ.lookup ty = some ti := by rfl) (hki : ti.k = .slice el := by rfl) (hj : Θ.lookup el = some tj := by rfl) (hz : tj.size = 1 := by rfl)
    (hx : evO L x = some (.slice (some ⟨t, off, some 0⟩) n c) := by rfl) (hy : evO L y = some (.string sv) := by rfl) (hr : K.lookup t = some r := by rfl) (hcs : r.cs = bvs ms := by rfl) (hfl : r.flat = true := by rfl) (hn : ns.length ≤ n := by simp only [List.length_cons, List.length_nil]; omega) (hle : off + ns.length ≤ ms.length := by (try simp only [putI_length, List.length_replicate, List.length_cons, List.length_nil]); omega) : JL X ops (o :: l) s F L K := by
  have hsz : sv.size = ns.length := by
    have := congrArg List.length hns
    rw [bvs_length] at this
    rw [← this]
    simp [bytesV]
  refine JL.step hg (Go1.copy (m := sv.size) (k := ns.length) (xv := .string sv) (news := bvs ns) (r := r) (tys := [ty']) hθ ho (.inl hd) hN hi hki hj hx hy (App.string (F := F) (K := K) sv).lenOf (by rw [hsz]; exact Nat.min_eq_left hn) (by rw [bvs_length, hz, Nat.mul_one]) (bvs_one ns) (fun ι w hS => ?_) hr (by rw [bvs_length, hcs, bvs_length]; exact hle) ?_)
  · have := (App.string (P := X.P) (F := F) (K := K) sv).cells ι w hS
    rw [hsz, hns] at this
    rw [hz]
    exact this
  · rw [row_bvs hcs hfl, if_neg (by rw [hd]; simp)]
    exact hk
/-- new bytes -/
theorem mkB {Θ : Tab} {ty el : TypeId} {x c : Operand} {d : Nat} {ti tj : Ty} {kl kc : IntKind} {qn : Int} (hk : JL X ops l s F ((d, .slice (some ⟨d, 0, some 0⟩) qn.toNat qn.toNat) :: L) ((d, { elem := el, cs := bvs (List.replicate qn.toNat 0), room := qn.toNat, flat := true }) :: K))
    (hg : o.guard = none := by rfl) (ho : o.op = .makeSlice ty x c := by rfl) (hd : o.dst = some d := by rfl) (hN : d < X.N := by exact Nat.le_of_ble_eq_true rfl) (hθ : tabOk X.P Θ = true := by exact hT) (hi : Θ.lookup ty = some ti := by rfl) (hki : ti.k = .slice el := by rfl) (hj : Θ.lookup el = some tj := by rfl)
    (hl : evO L x = some (.int kl qn) := by rfl) (hc : evO L c = some (.int kc qn) := by rfl) (hz : tj.zero = [.int .u8 0] := by rfl) (hz0 : tj.size = 1 := by rfl) (hz1 : tj.bytes = 1 := by rfl) (h0 : 0 ≤ qn := by omega) (hb : qn ≤ 281474976710656 := by omega)
    (hL : ntL d L = true := by rfl) (hK : ntK d K = true := by rfl) (hD : X.D.contains d = false := by rfl) : JL X ops (o :: l) s F L K := by
  refine mk ?_ hg ho hd hN hθ hi hki hj hl hc h0 (Int.le_refl _) (by rw [hz1]; omega) (by omega) (by rw [hz, hz0]; rfl) (by rw [hz0]; exact Nat.one_pos) hL hK hD
  rw [zer_bvs hz, hz0, Nat.mul_one]
  exact hk
end
/-- the two bytes of a number -/
def hiB (x : Int) : Int := IntKind.u8.wrap (x.fdiv (2 ^ 8))
def loB (x : Int) : Int := IntKind.u8.wrap x
theorem wrap_u8_mod (x : Int) : IntKind.u8.wrap x = x % 256 := by simp [IntKind.wrap, IntKind.bits, IntKind.signed]
theorem hiB_eq (x : Int) : hiB x = x / 256 % 256 := by
  rw [hiB, wrap_u8_mod, Int.fdiv_eq_ediv_of_nonneg _ (by decide), show (2 : Int) ^ 8 = 256 from by decide]
theorem loB_eq (x : Int) : loB x = x % 256 := wrap_u8_mod x
theorem hl_bys (x : Int) : bys [hiB x, loB x] := by
  intro n hn
  rw [hiB_eq, loB_eq] at hn
  simp only [List.mem_cons, List.not_mem_nil, or_false] at hn
  rcases hn with rfl | rfl <;> omega
theorem hl_two {x : Int} (h0 : 0 ≤ x) (h1 : x < 65536) : hiB x * 256 + loB x = x := by
  rw [hiB_eq, loB_eq]; omega
theorem hl_sg {x : Int} (h0 : -32768 ≤ x) (h1 : x ≤ 32767) : sg2 (hiB x * 256 + loB x) = x := by
  rw [hiB_eq, loB_eq]
  unfold sg2
  split <;> omega
end Go.Proofs.Ytfcckfiipbdnkaa.Am
namespace Go.Proofs.Ytfcckfiipbdnkaa.Am
set_option linter.unusedSimpArgs false
set_option linter.unusedVariables false
open Go Go.RowKit
/-! Appending by what is appended; slices whose address is not known. -/
section
variable {X : Cx} {F : Mem} {L : Slots} {K : Own} {s : List SI} {ops : Array Oper} {o : Oper} {l : List Oper}
/-- all of a told slice of numbers, appended to an own row of numbers -/
theorem apIx {Θ : Tab} {ty ty' el : TypeId} {sx x : Operand} {d n c : Nat} {ti ti' tj : Ty} {xv : Value} {ys xs : List Int} {r : Row} (t u : Nat) (Lk : Slots) (Kk : Own) (happ0 : App X.P F K 1 xv xs.length (ivs xs))
    (hk : ∀ cap, ys.length + xs.length ≤ cap → cap ≤ 9223372036854775807 → JL X ops l s F ((d, .slice (some ⟨u, 0, some 0⟩) (ys.length + xs.length) cap) :: Lk) ((u, { elem := el, cs := ivs (ys ++ xs), room := cap * 1, fz := r.fz, flat := true }) :: Kk))
    (hg : o.guard = none := by rfl) (ho : o.op = .call ⟨.builtin .append, #[sx, x], #[ty, ty']⟩ := by rfl) (hd : o.dst = some d := by rfl) (hN : d < X.N := by exact Nat.le_of_ble_eq_true rfl) (hθ : tabOk X.P Θ = true := by exact hT)
    (hi : Θ.lookup ty = some ti := by rfl) (hki : ti.k = .slice el := by rfl) (hi' : Θ.lookup ty' = some ti' := by rfl) (hk' : slB ti'.k = true := by rfl) (hj : Θ.lookup el = some tj := by rfl) (hz0 : tj.zero.length = tj.size := by rfl) (hsz : tj.size = 1 := by rfl) (hby8 : tj.bytes = 8 := by rfl)
    (hs : evO L sx = some (.slice (some ⟨u, 0, some 0⟩) n c) := by rfl) (hx : evO L x = some xv := by rfl) (hr : K.lookup u = some r := by rfl) (hcs : r.cs = ivs ys := by rfl) (hLk : LSub Lk L := by repeat' first | exact trivial | refine And.intro rfl ?_) (hKk : KSub Kk K := by repeat' first | exact trivial | refine And.intro rfl ?_)
    (hn : n = ys.length := by first | rfl | omega) (hroom : r.room = c * 1 := by rfl) (hel : r.elem = el := by rfl) (hnc : n ≤ c := by first | exact Nat.le_of_ble_eq_true rfl | omega) (hcm : c ≤ 9223372036854775807 := by first | exact Nat.le_of_ble_eq_true rfl | omega)
    (hby : (ys.length + xs.length) * 8 ≤ 140737488355328 := by (try simp only [List.length_nil]); omega)
    (hL : ntL t L = true := by rfl) (hK : ntK t K = true := by rfl) (hD : X.D.contains t = false := by rfl) (hDu : X.D.contains u = false := by rfl) (hdk : (Lk.all fun x => x.1 != d) = true := by rfl) (hKu : ntK u Kk = true := by rfl) (hKt : ntK t Kk = true := by rfl) (hLu : ntL u Lk = true := by rfl) : JL X ops (o :: l) s F L K := by
  subst hn
  rcases Nat.eq_zero_or_pos xs.length with hz | hz
  · have hxs : xs = [] := List.eq_nil_of_length_eq_zero hz
    subst hxs
    have happ : App X.P F K tj.size xv 0 [] := by rw [hsz]; exact happ0
    refine ap0 ?_ hg ho hd hN hθ hi hki hi' hk' hj hs hx happ hnc
    have h1 := hk c (by simpa using hnc) hcm
    rw [List.append_nil, List.length_nil, Nat.add_zero] at h1
    have h2 : JL X ops l s F ((d, .slice (some ⟨u, 0, some 0⟩) ys.length c) :: Lk) ((u, { r with cs := ivs ys }) :: Kk) := by
      refine JL.flat (ivs_pl ys) ?_
      rw [← hel]at h1
      have e : r.room = c * 1 := hroom
      rw [← e] at h1
      exact h1
    refine JL.weak (hLk.cons hdk) ?_ h2
    refine KSub.of_all ?_ ?_
    · have := hKk.tags
      simp only [List.map_cons, List.nodup_cons]
      refine ⟨fun hm => ?_, this⟩
      obtain ⟨y, hy, e⟩ := List.mem_map.1 hm
      have h2 := List.all_eq_true.1 hKu y hy
      simp only [Bool.and_eq_true, bne_iff_ne, ne_eq] at h2
      exact h2.1 e
    · intro y hy
      rcases List.mem_cons.1 hy with rfl | hy
      · rw [hr, ← hcs]
      · exact hKk.mem y hy
  · have happ : App X.P F K tj.size xv xs.length (ivs xs) := by rw [hsz]; exact happ0
    refine apO (m := xs.length) (news := ivs xs) t u Lk Kk ?_ hg ho hd hN hθ hi hki hi' hk' hj hz0 (by omega) hs hx hr happ hLk hKk (by rw [hsz]; exact hroom) hel (by rw [hcs, ivs_length, hsz, Nat.mul_one]) hnc hcm hz (by omega) (by rw [hby8]; exact hby) (fun _ => List.all_eq_true.2 fun v hv => by obtain ⟨y, _, rfl⟩ := List.mem_map.1 hv; rfl) hL hK (ivs_nt _ _) hD hDu hdk hKu hKt hLu (by rw [hcs, ← ivs_append, ivs_nt, Bool.or_true])
    intro cap hc1 hc2
    rw [hcs, ← ivs_append, hsz]
    exact JL.flat (ivs_pl _) (hk cap hc1 hc2)
end
theorem apIx0 {X : Cx} {F : Mem} {L : Slots} {K : Own} {s : List SI} {ops : Array Oper} {o : Oper} {l : List Oper} {Θ : Tab} {ty ty' el : TypeId} {sx x : Operand} {d c : Nat} {ti ti' tj : Ty} {xv : Value} {xs : List Int} {r : Row} (t u : Nat) (Lk : Slots) (Kk : Own) (happ0 : App X.P F K 1 xv xs.length (ivs xs))
    (hk : ∀ cap, xs.length ≤ cap → cap ≤ 9223372036854775807 → JL X ops l s F ((d, .slice (some ⟨u, 0, some 0⟩) xs.length cap) :: Lk) ((u, { elem := el, cs := ivs xs, room := cap * 1, fz := r.fz, flat := true }) :: Kk))
    (hg : o.guard = none := by rfl) (ho : o.op = .call ⟨.builtin .append, #[sx, x], #[ty, ty']⟩ := by rfl) (hd : o.dst = some d := by rfl) (hN : d < X.N := by exact Nat.le_of_ble_eq_true rfl) (hθ : tabOk X.P Θ = true := by exact hT)
    (hi : Θ.lookup ty = some ti := by rfl) (hki : ti.k = .slice el := by rfl) (hi' : Θ.lookup ty' = some ti' := by rfl) (hk' : slB ti'.k = true := by rfl) (hj : Θ.lookup el = some tj := by rfl) (hz0 : tj.zero.length = tj.size := by rfl) (hsz : tj.size = 1 := by rfl) (hby8 : tj.bytes = 8 := by rfl)
    (hs : evO L sx = some (.slice (some ⟨u, 0, some 0⟩) 0 c) := by rfl) (hx : evO L x = some xv := by rfl) (hr : K.lookup u = some r := by rfl) (hcs : r.cs = [] := by rfl) (hLk : LSub Lk L := by repeat' first | exact trivial | refine And.intro rfl ?_) (hKk : KSub Kk K := by repeat' first | exact trivial | refine And.intro rfl ?_)
    (hroom : r.room = c * 1 := by rfl) (hel : r.elem = el := by rfl) (hcm : c ≤ 9223372036854775807 := by first | exact Nat.le_of_ble_eq_true rfl | omega)
    (hby : xs.length * 8 ≤ 140737488355328 := by omega)
    (hL : ntL t L = true := by rfl) (hK : ntK t K = true := by rfl) (hD : X.D.contains t = false := by rfl) (hDu : X.D.contains u = false := by rfl) (hdk : (Lk.all fun x => x.1 != d) = true := by rfl) (hKu : ntK u Kk = true := by rfl) (hKt : ntK t Kk = true := by rfl) (hLu : ntL u Lk = true := by rfl) : JL X ops (o :: l) s F L K := by
  refine apIx (ys := []) t u Lk Kk happ0 (fun cap h1 h2 => ?_) hg ho hd hN hθ hi hki hi' hk' hj hz0 hsz hby8 hs hx hr hcs hLk hKk rfl hroom hel (Nat.zero_le _) hcm (by simpa using hby) hL hK hD hDu hdk hKu hKt hLu
  have := hk cap (by simpa using h1) h2
  rw [List.length_nil, Nat.zero_add, List.nil_append]
  exact this
section
variable {F : Mem} {L : Slots} {K : Own}
/-- of an array of numbers, the one at a place -/
theorem sdXG {t el : TypeId} {x i : Operand} {G : Nat → Int} {n : Nat} {k : IntKind} {q : Int} {ti tj : Ty} (ht : Θ.lookup t = some ti := by rfl) (hk : ti.k = .array n el := by rfl) (hj : Θ.lookup el = some tj := by rfl) (hag : aggB tj.k = false := by rfl) (hz : tj.size = 1 := by rfl)
    (hx : evO L x = some (.agg ⟨gI G n⟩) := by rfl) (hi : evO L i = some (.int k q) := by rfl) (h0 : 0 ≤ q := by omega) (h1 : q < n := by omega) : SD Try.prog F K L (.index t x i) (.int .i64 (G q.toNat)) :=
  SD.idxAgg hT ht hk hj hag hx hi h0 h1 (by rw [hz, Nat.mul_one]; exact gI_get (by omega)) rfl
end
/-! A slice whose address is not known, but that it is none of the call's own. -/
def PlA (a : Option Addr) : Prop := a = none ∨ (∃ b o, a = some ⟨b, o, none⟩) ∨ ∃ b o s, a = some ⟨b, o, some (s + 1)⟩
section
variable {a : Option Addr} (h : PlA a)
include h
theorem PlA.pl (n c : Nat) : plain1 (.slice a n c) = true := by rcases h with rfl | ⟨b, o, rfl⟩ | ⟨b, o, s, rfl⟩ <;> rfl
theorem PlA.nt (t n c : Nat) : nt1 t (.slice a n c) = true := by rcases h with rfl | ⟨b, o, rfl⟩ | ⟨b, o, s, rfl⟩ <;> rfl
theorem PlA.tg (D : List Nat) (n c : Nat) : tg1 D (.slice a n c) = true := by rcases h with rfl | ⟨b, o, rfl⟩ | ⟨b, o, s, rfl⟩ <;> rfl
theorem PlA.r (ι : Nat → Nat) (n c : Nat) : r1 ι (.slice a n c) = .slice a n c := by rcases h with rfl | ⟨b, o, rfl⟩ | ⟨b, o, s, rfl⟩ <;> rfl
theorem PlA.c (ι κ : Nat → Nat) (n c : Nat) : c1 ι (.slice a n c) = c1 κ (.slice a n c) := by rcases h with rfl | ⟨b, o, rfl⟩ | ⟨b, o, s, rfl⟩ <;> rfl
theorem PlA.app0 {P : Program} {F : Mem} {K : Own} (sz c : Nat) : App P F K sz (.slice a 0 c) 0 [] := by
  rcases h with rfl | ⟨b, o, rfl⟩ | ⟨b, o, s, rfl⟩
  · exact App.nil _ _
  · exact App.slice (by simp [rdN, lookN]) (fun v hv => by cases hv) (by simp)
  · exact App.slice (by simp [rdN]) (fun v hv => by cases hv) (by simp)
end
theorem PlA.rV {a : Option Addr} (h : PlA a) (ι : Nat → Nat) (n c : Nat) : rV ι (.slice a n c) = .slice a n c := h.r ι n c
theorem C.ofR {P : Program} {f : FuncId} {vs us : List Value} {F : Mem} {Q : Value → List (Nat × Row) → Prop} (h : C P f us F Q) (e : vs = us) : C P f vs F Q := e ▸ h
theorem arg1 {f : Value → Value} {a a' : Value} (h1 : f a = a') : [a].map f = [a'] := by rw [List.map_cons, List.map_nil, h1]
theorem arg2 {f : Value → Value} {a b a' b' : Value} (h1 : f a = a') (h2 : f b = b') : [a, b].map f = [a', b'] := by rw [List.map_cons, List.map_cons, List.map_nil, h1, h2]
theorem arg3 {f : Value → Value} {a b c a' b' c' : Value} (h1 : f a = a') (h2 : f b = b') (h3 : f c = c') : [a, b, c].map f = [a', b', c'] := by rw [List.map_cons, List.map_cons, List.map_cons, List.map_nil, h1, h2, h3]
theorem nt1_i (t : Nat) (k : IntKind) (x : Int) : nt1 t (.int k x) = true := rfl
theorem nt1_b (t : Nat) (x : Bool) : nt1 t (.bool x) = true := rfl
theorem nt1_s (t : Nat) (x : ByteArray) : nt1 t (.string x) = true := rfl
theorem nt1_n (t n c : Nat) : nt1 t (.slice none n c) = true := rfl
theorem nt1_o (t u o n c : Nat) : nt1 t (.slice (some ⟨u, o, some 0⟩) n c) = (u != t) := rfl
theorem nt1_w (t u o n c : Nat) : nt1 t (.slice (some ⟨u, o, none⟩) n c) = true := rfl
theorem nt1_p (t b o : Nat) : nt1 t (.pointer (some ⟨b, o, some 0⟩)) = (b != t) := rfl
theorem tg1_i (t : List Nat) (k : IntKind) (x : Int) : tg1 t (.int k x) = true := rfl
theorem tg1_b (t : List Nat) (x : Bool) : tg1 t (.bool x) = true := rfl
theorem tg1_s (t : List Nat) (x : ByteArray) : tg1 t (.string x) = true := rfl
/-- numbers in a slice, told by their places -/
structure RIx (F : Mem) (a : Option Addr) (xs : List Int) : Prop where
  pl : PlA a
  h63 : xs.length ≤ 9223372036854775807
  rd : 0 < xs.length → ∃ b off, a = some ⟨b, off, none⟩ ∧ ∀ (i : Nat) (x : Int), xs[i]? = some x → look F ⟨b, off + i, none⟩ = some (.int .i64 x)
theorem RIx.le {F F' : Mem} {a : Option Addr} {xs : List Int} (h : RIx F a xs) (hl : F.le F') : RIx F' a xs := ⟨h.pl, h.h63, fun hp => by
  obtain ⟨b, off, e, hr⟩ := h.rd hp
  exact ⟨b, off, e, fun i x hx => hl _ _ (hr i x hx)⟩⟩
theorem RIx.app {P : Program} {F : Mem} {K : Own} {a : Option Addr} {xs : List Int} (h : RIx F a xs) (c : Nat) : App P F K 1 (.slice a xs.length c) xs.length (ivs xs) := by
  rcases Nat.eq_zero_or_pos xs.length with hz | hz
  · have hxs : xs = [] := List.eq_nil_of_length_eq_zero hz
    subst hxs
    exact h.pl.app0 1 c
  · obtain ⟨b, off, rfl, hr⟩ := h.rd hz
    refine App.slice ?_ (ivs_one xs) (by rw [ivs_length, Nat.mul_one])
    rw [Nat.mul_one]
    exact lookN_ints hr
theorem RIx.ofInts {F : Mem} {v : Value} {xs : List Int} (h : RInts F v xs) : ∃ a c, v = .slice a xs.length c ∧ RIx F a xs := by
  rcases h with ⟨b, off, c, rfl, h2, h3⟩ | ⟨rfl, rfl⟩
  · exact ⟨_, c, rfl, .inr (.inl ⟨_, _, rfl⟩), h2, fun _ => ⟨b, off, rfl, h3⟩⟩
  · exact ⟨none, 0, rfl, .inl rfl, by simp, fun h => by simp at h⟩
theorem RIx.none (F : Mem) : RIx F none [] := ⟨.inl rfl, by simp, fun h => by simp at h⟩
theorem Val.intsX {ι : Nat → Nat} {K : Own} {F : Mem} (h : Val ι K F) {t : Nat} {r : Row} {xs : List Int} (hr : K.lookup t = some r) (hcs : r.cs = ivs xs) (hl : xs.length ≤ 9223372036854775807) : RIx (push ι K F) (some ⟨ι t, 0, .none⟩) xs := by
  refine ⟨.inr (.inl ⟨_, _, rfl⟩), hl, fun _ => ⟨_, _, rfl, fun i x hx => ?_⟩⟩
  have := h.look hr (o := i) (v := .int .i64 x) (by rw [hcs]; exact ivs_get hx)
  rw [Nat.zero_add]
  exact this
/-! A contract that was shown for a row with the tag 500001 holds for any tag. -/
theorem St.retag1 {F : Mem} {ι κ : Nat → Nat} {u t : Nat} {r : Row} {w : World} (h : St F ι [(t, r)] w) (e : κ u = ι t) (hp : ∀ v ∈ r.cs, plain1 v = true) : St F κ [(u, r)] w := by
  refine ⟨h.below, ?_, fun x hx => ?_, h.ext⟩
  · have := h.nodup
    simpa [e] using this
  · simp only [List.mem_singleton] at hx
    subst hx
    have := h.own (t, r) (by simp)
    have ec : r.c κ = r.c ι := Row.c_flat _ _ hp
    refine ⟨?_, ?_, this.2.2⟩
    · show _ ≤ κ u
      rw [e]; exact this.1
    · show Holds w (κ u) (r.c κ)
      rw [e, ec]; exact this.2.1
theorem CA.at {P : Program} {f : FuncId} {F : Mem} {r r' : Row} {o n c : Nat} {rest : List Value} {v0 : Value} (u : Nat) (hr : ∀ v ∈ r.cs, plain1 v = true) (hr' : ∀ v ∈ r'.cs, plain1 v = true) (hf' : r'.flat = true) (hrest : ∀ ι κ, rest.map (cV ι) = rest.map (cV κ)) (hv0 : ∀ ι κ, cV ι v0 = cV κ v0) (hg : ∀ T, tgV T v0 = true)
    (h : CA P [500001] [500001] f (.slice (some ⟨500001, o, some 0⟩) n c :: rest) F [(500001, r)] (fun v Y K' => v = v0 ∧ Y = [] ∧ K' = [(500001, r')])) :
    CA P [u] [u] f (.slice (some ⟨u, o, some 0⟩) n c :: rest) F [(u, r)] (fun v Y K' => v = v0 ∧ Y = [] ∧ K' = [(u, r')]) := by
  intro ι w hS
  have hk : upd ι 500001 (ι u) 500001 = ι u := upd_eq ..
  have h1 := h (upd ι 500001 (ι u)) w (hS.retag1 hk hr)
  have ea : ((Value.slice (some ⟨500001, o, some 0⟩) n c :: rest).map (cV (upd ι 500001 (ι u)))) = ((Value.slice (some ⟨u, o, some 0⟩) n c :: rest).map (cV ι)) := by
    rw [List.map_cons, List.map_cons, hrest (upd ι 500001 (ι u)) ι]
    refine congrArg (· :: _) ?_
    show Value.slice (some ⟨upd ι 500001 (ι u) 500001, o, none⟩) n c = Value.slice (some ⟨ι u, o, none⟩) n c
    rw [hk]
  rw [ea] at h1
  refine h1.mono fun e w' ⟨ι', v, Y, K', e1, e2, e3, e4, e5, e6, e7, e8, e9⟩ => ?_
  subst e7 e8 e9
  refine ⟨ι, v, [], [(u, r')], by rw [e1, hv0], fun _ _ => rfl, by simp [tgK, hf'], hg _, e5, e6.retag1 ?_ hr', rfl, rfl, rfl⟩
  rw [e2 _ (by simp), hk]
end Go.Proofs.Ytfcckfiipbdnkaa.Am
namespace Go.Proofs.Ytfcckfiipbdnkaa.Am
set_option linter.unusedSimpArgs false
set_option linter.unusedVariables false
set_option maxRecDepth 100000
set_option maxHeartbeats 4000000
open Go Go.RowKit
theorem two_i (s : ByteArray) {x : Int} (h0 : 0 ≤ x) : byteAt s x.toNat * 256 + byteAt s (x + 1).toNat = two s x.toNat := by
  rw [two, show (x + 1).toNat = x.toNat + 1 from by omega]
theorem mTwo_C (F : Mem) (s : ByteArray) (x : Int) (h0 : 0 ≤ x) (h1 : x + 1 < s.size) (h2 : x < 9223372036854775807) : C0 Try.prog 51 [.string s, .int .i64 x] F (.int .i64 (two s x.toNat)) := by
  have b1 := byteAt_bd s x.toNat
  have b2 := byteAt_bd s (x + 1).toNat
  rw [← two_i s h0]
  refine C.go hT Try.func51 Try.ntmps51 ?_
  refine sq ?_
  refine rg ?_
  refine st (h := O) ?_
  refine nl ?_
  refine sq ?_
  refine dr 12 [] [0, 1, 2, 3, 4, 5, 6, 7, 8, 9, 10, 11] ?_
  iterate 2 (refine dt (hv := by exact O) ?_)
  refine dt (hv := by exact sdXs) ?_
  refine dt (hv := by exact sbC) ?_
  refine dt (hv := by exact siShl 8 (v := byteAt s x.toNat * 256) (hv := congrArg (byteAt s x.toNat * ·) (by decide : (2 : Int) ^ 8 = 256))) ?_
  iterate 2 (refine dt (hv := by exact O) ?_)
  refine dt (hv := by exact sdA) ?_
  refine dt (hv := by exact sdXs) ?_
  refine dt (hv := by exact sbC) ?_
  refine dt (hv := by exact siOr8) ?_
  refine dt (hv := by exact O) ?_
  refine dn ?_
  exact rt ⟨rfl, rfl⟩
theorem u2_C (F : Mem) (s : ByteArray) (x : Int) (h2 : i64ok x) (hs : s.size ≤ 140737488355328) : C0 Try.prog 28 [.string s, .int .i64 x] F (.int .i64 (u2 s x)) := by
  unfold i64ok at h2
  have b1 := byteAt_bd s x.toNat
  have b2 := byteAt_bd s (x + 1).toNat
  refine C.go hT Try.func28 Try.ntmps28 ?_
  refine sq ?_
  refine rg ?_
  refine st (h := O) ?_
  refine nl ?_
  iterate 2 (refine sq ?_)
  refine rg ?_
  iterate 3 (refine st (h := O) ?_)
  refine gD (fun g7 => ?_) (fun g7 => ?_)
  · refine sp ?_
    iterate 4 (refine sp ?_)
    refine st (h := O) ?_
    refine nl ?_
    refine cT ?_
    refine sq ?_
    refine rg ?_
    refine st (h := O) ?_
    refine nl ?_
    refine rt ⟨?_, rfl⟩
    rw [u2, if_pos (by omega)]
  · refine sg (h := O) ?_
    iterate 2 (refine sg (h := O) ?_)
    refine sg (h := sdS) ?_
    refine sg (h := O) ?_
    refine st (h := O) ?_
    refine nl ?_
    refine cD (fun c0 => ?_) (fun c0 => ?_)
    · refine sq ?_
      refine rg ?_
      refine st (h := O) ?_
      refine nl ?_
      refine rt ⟨?_, rfl⟩
      rw [u2, if_pos (by omega)]
    · rw [u2, if_neg (by omega), ← two_i s (by omega)]
      refine sk ?_
      refine sq ?_
      refine dr 12 [] [0, 1, 2, 3, 4, 5, 6, 7, 8, 9, 10, 11] ?_
      iterate 2 (refine dt (hv := by exact O) ?_)
      refine dt (hv := by exact sdXs) ?_
      refine dt (hv := by exact sbC) ?_
      refine dt (hv := by exact siShl 8 (v := byteAt s x.toNat * 256) (hv := congrArg (byteAt s x.toNat * ·) (by decide : (2 : Int) ^ 8 = 256))) ?_
      iterate 2 (refine dt (hv := by exact O) ?_)
      refine dt (hv := by exact sdA) ?_
      refine dt (hv := by exact sdXs) ?_
      refine dt (hv := by exact sbC) ?_
      refine dt (hv := by exact siOr8) ?_
      refine dt (hv := by exact O) ?_
      refine dn ?_
      exact rt ⟨rfl, rfl⟩
theorem s2_C (F : Mem) (s : ByteArray) (x : Int) (h2 : i64ok x) (hs : s.size ≤ 140737488355328) : C0 Try.prog 29 [.string s, .int .i64 x] F (.int .i64 (sg2 (u2 s x))) := by
  have b1 := u2_bd s x
  refine C.go hT Try.func29 Try.ntmps29 ?_
  refine sq ?_
  refine rg ?_
  refine st (h := O) ?_
  refine nl ?_
  refine sq ?_
  refine rg ?_
  iterate 2 (refine st (h := O) ?_)
  refine cl (h := by exact fun ι hV hl => u2_C _ _ _ h2 hs) ?_
  refine st (h := O) ?_
  refine nl ?_
  iterate 2 (refine sq ?_)
  refine rg ?_
  iterate 2 (refine st (h := O) ?_)
  refine nl ?_
  refine cD (fun c0 => ?_) (fun c0 => ?_)
  · rw [sg2, if_pos c0]
    refine rg ?_
    refine st (h := O) ?_
    refine st (h := sdS) ?_
    refine st (h := O) ?_
    refine nl ?_
    refine sq ?_
    refine rg ?_
    iterate 2 (refine st (h := O) ?_)
    refine nl ?_
    exact rt ⟨rfl, rfl⟩
  · rw [sg2, if_neg c0]
    refine sk ?_
    refine sq ?_
    refine rg ?_
    iterate 2 (refine st (h := O) ?_)
    refine nl ?_
    exact rt ⟨rfl, rfl⟩
theorem i16_sg {x : Int} (h0 : 0 ≤ x) (h1 : x < 65536) : IntKind.i16.wrap x = sg2 x := by
  have e : IntKind.i16.wrap x = if x % 65536 ≥ 32768 then x % 65536 - 65536 else x % 65536 := by simp [IntKind.wrap, IntKind.signed, IntKind.bits]
  rw [e]
  unfold sg2
  split <;> split <;> omega
theorem mSg_C (F : Mem) (s : ByteArray) (x : Int) (h0 : 0 ≤ x) (h1 : x + 1 < s.size) (h2 : x < 9223372036854775807) : C0 Try.prog 52 [.string s, .int .i64 x] F (.int .i64 (sg2 (two s x.toNat))) := by
  have b1 := two_bd s x.toNat
  have b2 := sg2_bd b1.1 b1.2
  refine C.go hT Try.func52 Try.ntmps52 ?_
  refine sq ?_
  refine rg ?_
  refine st (h := O) ?_
  refine nl ?_
  refine sq ?_
  refine rg ?_
  iterate 2 (refine st (h := O) ?_)
  refine cl (h := by exact fun ι hV hl => mTwo_C _ _ _ h0 h1 h2) ?_
  iterate 3 (refine st (h := O) ?_)
  refine nl ?_
  refine rt ⟨?_, rfl⟩
  rw [i16_sg b1.1 b1.2, wrap_i64 (by omega) (by omega)]
theorem mSmall_C (F : Mem) (x : Int) : C0 Try.prog 35 [.int .i64 x] F (.bool (decide (-32768 ≤ x ∧ x ≤ 32767))) := by
  refine C.go hT Try.func35 Try.ntmps35 ?_
  refine sq ?_
  refine rg ?_
  refine st (h := O) ?_
  refine nl ?_
  refine sq ?_
  refine rg ?_
  iterate 3 (refine st (h := O) ?_)
  refine gD (fun g5 => ?_) (fun g5 => ?_)
  · refine sg (h := O) ?_
    refine sg (h := O) ?_
    iterate 2 (refine st (h := O) ?_)
    refine nl ?_
    refine rt ⟨?_, rfl⟩
    simp only [Value.bool.injEq, eq_comm (a := false), decide_eq_true_eq, decide_eq_false_iff_not, decide_eq_decide]; omega
  · refine sp ?_
    refine sp ?_
    iterate 2 (refine st (h := O) ?_)
    refine nl ?_
    refine rt ⟨?_, rfl⟩
    simp only [Value.bool.injEq, eq_comm (a := false), decide_eq_true_eq, decide_eq_false_iff_not, decide_eq_decide]; omega
theorem rShort_C (F : Mem) (x : Int) : C0 Try.prog 36 [.int .i64 x] F (.bool (decide (-32768 ≤ x ∧ x ≤ 32767))) := by
  refine C.go hT Try.func36 Try.ntmps36 ?_
  refine sq ?_
  refine rg ?_
  refine st (h := O) ?_
  refine nl ?_
  refine sq ?_
  refine rg ?_
  iterate 3 (refine st (h := O) ?_)
  refine gD (fun g5 => ?_) (fun g5 => ?_)
  · refine sg (h := O) ?_
    refine sg (h := O) ?_
    iterate 2 (refine st (h := O) ?_)
    refine nl ?_
    refine rt ⟨?_, rfl⟩
    simp only [Value.bool.injEq, eq_comm (a := false), decide_eq_true_eq, decide_eq_false_iff_not, decide_eq_decide]; omega
  · refine sp ?_
    refine sp ?_
    iterate 2 (refine st (h := O) ?_)
    refine nl ?_
    refine rt ⟨?_, rfl⟩
    simp only [Value.bool.injEq, eq_comm (a := false), decide_eq_true_eq, decide_eq_false_iff_not, decide_eq_decide]; omega
theorem rTwo_C (F : Mem) (x : Int) (h : i64ok x) : C0 Try.prog 45 [.int .i64 x] F (.string (tx [hiB x, loB x])) := by
  unfold i64ok at h
  refine C.go hT Try.func45 Try.ntmps45 ?_
  refine sq ?_
  refine rg ?_
  refine st (h := O) ?_
  refine nl ?_
  refine sq ?_
  refine rg ?_
  refine st (h := O) ?_
  refine st (h := sdSr) ?_
  iterate 3 (refine st (h := O) ?_)
  refine sl ?_
  refine st (h := sdTx (ns := [hiB x, loB x])) ?_
  refine st (h := O) ?_
  refine nl ?_
  exact rt ⟨rfl, rfl⟩
theorem rTwo9_C (F : Mem) (x : Int) (h : i64ok x) : C0 Try.prog 34 [.int .i64 x] F (.string (tx [hiB x, loB x])) := by
  refine C.go hT Try.func34 Try.ntmps34 ?_
  refine sq ?_
  refine rg ?_
  refine st (h := O) ?_
  refine nl ?_
  refine sq ?_
  refine rg ?_
  refine st (h := O) ?_
  refine cl (h := by exact fun ι hV hl => rTwo_C _ _ h) ?_
  refine st (h := O) ?_
  refine nl ?_
  exact rt ⟨rfl, rfl⟩
theorem zeros_C (F : Mem) (n : Int) (h0 : 0 ≤ n) (h1 : n ≤ 140737488355328) : C0 Try.prog 33 [.int .i64 n] F (.string (tx (List.replicate n.toNat 0))) := by
  refine C.go hT Try.func33 Try.ntmps33 ?_
  refine sq ?_
  refine rg ?_
  refine st (h := O) ?_
  refine nl ?_
  refine sq ?_
  refine rg ?_
  refine st (h := O) ?_
  refine mkB ?_
  refine st (h := sdTx (ns := List.replicate n.toNat 0) (hn := by simp)) ?_
  refine st (h := O) ?_
  refine nl ?_
  exact rt ⟨rfl, rfl⟩
/-- tables: their names and their bytes -/
abbrev Tb := ByteArray × ByteArray
def kTb : Knd Tb := Knd.string.pair Knd.string
theorem kTb_forms {F : Mem} {v : Value} {l : List Tb} (h : kTb.S F v l) : (∃ b off c, v = .slice (some ⟨b, off, none⟩) l.length c ∧ l.length ≤ 9223372036854775807 ∧ ∀ i (hi : i < l.length), (∀ K, rdN F K ⟨b, off + i * 2, none⟩ 2 = some [.string (l[i]'hi).1, .string (l[i]'hi).2]) ∧ look F ⟨b, off + i * 2, none⟩ = some (.string (l[i]'hi).1) ∧ look F ⟨b, off + i * 2 + 1, none⟩ = some (.string (l[i]'hi).2)) ∨ (v = .slice none 0 0 ∧ l = []) := by
  rcases h.forms with ⟨b, off, c, h1, h2, h3⟩ | h
  · refine .inl ⟨b, off, c, h1, h2, fun i hi => ?_⟩
    obtain ⟨cs, hc, hl, c1, c2, rfl, e1, e2⟩ := h3 i hi
    subst e1 e2
    exact ⟨hc, hl 0 _ rfl, hl 1 _ rfl⟩
  · exact .inr h
/-- the first table of a name -/
def fnd (l : List Tb) (t : ByteArray) : Option ByteArray := (l.find? fun x => decide (x.1 = t)).map (·.2)
theorem fnd_at {l : List Tb} {t : ByteArray} {k : Nat} (hk : k < l.length) (hb : ∀ j (hj : j < k), (l[j]'(by omega)).1 ≠ t) (he : (l[k]'hk).1 = t) : fnd l t = some (l[k]'hk).2 := by
  have : l.find? (fun x => decide (x.1 = t)) = some (l[k]'hk) := by
    rw [List.find?_eq_some_iff_getElem]
    refine ⟨by simpa using he, k, hk, rfl, fun j hj => ?_⟩
    simpa using hb j hj
  rw [fnd, this]; rfl
theorem fnd_no {l : List Tb} {t : ByteArray} (hb : ∀ j (hj : j < l.length), (l[j]'hj).1 ≠ t) : fnd l t = none := by
  have : l.find? (fun x => decide (x.1 = t)) = none := by
    rw [List.find?_eq_none]
    intro x hx
    obtain ⟨j, hj, rfl⟩ := List.getElem_of_mem hx
    simpa using hb j hj
  rw [fnd, this]; rfl
def fndV (o : Option ByteArray) : Value := .tuple #[.string (o.getD ⟨#[]⟩), .bool o.isSome]
theorem bq_t {a b : ByteArray} (h : (a.data.toList == b.data.toList) = true) : a = b := by
  rw [beqS] at h; exact of_decide_eq_true h
theorem bq_f {a b : ByteArray} (h : (a.data.toList == b.data.toList) = false) : a ≠ b := by
  rw [beqS] at h; exact of_decide_eq_false h
theorem mFind_C (F : Mem) (v : Value) (l : List Tb) (t : ByteArray) (hv : kTb.S F v l) : C0 Try.prog 26 [v, .string t] F (fndV (fnd l t)) := by
  rcases kTb_forms hv with ⟨b, off, c, rfl, hl, hr⟩ | ⟨rfl, rfl⟩
  ·
    refine C.go hT Try.func26 Try.ntmps26 ?_
    refine sq ?_
    refine rg ?_
    iterate 2 (refine st (h := O) ?_)
    refine nl ?_
    iterate 2 (refine sq ?_)
    refine rg ?_
    iterate 3 (refine st (h := O) ?_)
    refine nl ?_
    refine bl ?_
    refine J.loop1 (α := Nat) (fun k => k ≤ l.length ∧ ∀ j (hj : j < l.length), j < k → (l[j]'hj).1 ≠ t) (fun k => [(10, .int .i64 k)]) [(1, _), (8, _), (9, _)] (fun k => []) [] (fun k => l.length - k) (0) (by exact ⟨rfl, trivial⟩) (by exact ⟨rfl, rfl, rfl, trivial⟩) (by exact trivial) ?_ ?_
    · exact ⟨Nat.zero_le _, fun j _ h => absurd h (Nat.not_lt_zero _)⟩
    · intro k L1 K1 e1 e2 hI
      dsimp only [apV, apR, List.cons_append, List.nil_append] at e1 e2
      subst e1 e2
      obtain ⟨hk, hb⟩ := hI
      refine sq ?_
      refine rg ?_
      refine st (h := O) ?_
      refine nl ?_
      refine sq ?_
      refine cD (fun c0 => ?_) (fun c0 => ?_)
      · have hkl : k < l.length := by omega
        obtain ⟨q0, q1, q2⟩ := hr k hkl
        rw [show off + k * 2 = off + (k : Int).toNat * 2 from rfl] at q0
        refine sk ?_
        refine sq ?_
        refine bl ?_
        refine sq ?_
        refine rg ?_
        refine st (h := (sdX (z := 2))) ?_
        refine st (h := sdLN (hv := q0 _)) ?_
        refine al ?_
        refine so ?_
        refine nl ?_
        refine sq ?_
        refine rg ?_
        refine st (h := sdFA) ?_
        refine st (h := sdL) ?_
        iterate 2 (refine st (h := O) ?_)
        refine nl ?_
        refine cB (fun c1 => ?_) (fun c1 => ?_)
        · refine sq ?_
          refine rg ?_
          refine st (h := sdFA) ?_
          refine st (h := sdL) ?_
          iterate 2 (refine st (h := O) ?_)
          refine nl ?_
          exact rt ⟨by rw [fnd_at hkl (fun j hj => hb j _ hj) (bq_t c1)], rfl⟩
        · refine sk ?_
          refine bk ?_
          refine rg ?_
          refine st (h := sdA) ?_
          refine st (h := O) ?_
          refine nl ?_
          refine bk1 (k + 1) (by exact ⟨rfl, trivial⟩) (by exact ⟨rfl, rfl, rfl, trivial⟩) (by exact trivial) ?_ ?_
          · omega
          · refine ⟨by omega, fun j hj hjk => ?_⟩
            rcases Nat.lt_or_ge j k with h | h
            · exact hb j hj h
            · obtain rfl : j = k := by omega
              exact bq_f c1
      · obtain rfl : k = l.length := by omega
        refine ex ?_
        refine sq ?_
        refine rg ?_
        iterate 2 (refine st (h := O) ?_)
        refine nl ?_
        exact rt ⟨by rw [fnd_no (fun j hj => hb j hj hj)], rfl⟩
  ·
    refine C.go hT Try.func26 Try.ntmps26 ?_
    refine sq ?_
    refine rg ?_
    iterate 2 (refine st (h := O) ?_)
    refine nl ?_
    iterate 2 (refine sq ?_)
    refine rg ?_
    iterate 3 (refine st (h := O) ?_)
    refine nl ?_
    refine bl ?_
    refine J.loop1 (α := Nat) (fun k => k = 0) (fun k => [(10, .int .i64 k)]) [(1, _), (8, _), (9, _)] (fun k => []) [] (fun k => 0) (0) (by exact ⟨rfl, trivial⟩) (by exact ⟨rfl, rfl, rfl, trivial⟩) (by exact trivial) ?_ ?_
    · rfl
    · intro k L1 K1 e1 e2 hI
      dsimp only [apV, apR, List.cons_append, List.nil_append] at e1 e2
      subst e1 e2
      subst hI
      refine sq ?_
      refine rg ?_
      refine st (h := O) ?_
      refine nl ?_
      refine sq ?_
      refine cD (fun c0 => ?_) (fun c0 => ?_)
      · exact absurd c0 (by decide)
      · refine ex ?_
        refine sq ?_
        refine rg ?_
        iterate 2 (refine st (h := O) ?_)
        refine nl ?_
        exact rt ⟨rfl, rfl⟩
theorem rFind_C (F : Mem) (v : Value) (l : List Tb) (t : ByteArray) (hv : kTb.S F v l) : C0 Try.prog 27 [v, .string t] F (fndV (fnd l t)) := by
  rcases kTb_forms hv with ⟨b, off, c, rfl, hl, hr⟩ | ⟨rfl, rfl⟩
  ·
    refine C.go hT Try.func27 Try.ntmps27 ?_
    refine sq ?_
    refine rg ?_
    iterate 2 (refine st (h := O) ?_)
    refine nl ?_
    iterate 2 (refine sq ?_)
    refine rg ?_
    refine st (h := O) ?_
    refine nl ?_
    refine bl ?_
    refine J.loop1 (α := Nat) (fun k => k ≤ l.length ∧ ∀ j (hj : j < l.length), j < k → (l[j]'hj).1 ≠ t) (fun k => [(6, .int .i64 k)]) [(0, _), (1, _)] (fun k => []) [] (fun k => l.length - k) (0) (by exact ⟨rfl, trivial⟩) (by exact ⟨rfl, rfl, trivial⟩) (by exact trivial) ?_ ?_
    · exact ⟨Nat.zero_le _, fun j _ h => absurd h (Nat.not_lt_zero _)⟩
    · intro k L1 K1 e1 e2 hI
      dsimp only [apV, apR, List.cons_append, List.nil_append] at e1 e2
      subst e1 e2
      obtain ⟨hk, hb⟩ := hI
      iterate 2 (refine sq ?_)
      refine rg ?_
      iterate 4 (refine st (h := O) ?_)
      refine nl ?_
      refine cD (fun c0 => ?_) (fun c0 => ?_)
      · have hkl : k < l.length := by omega
        obtain ⟨q0, q1, q2⟩ := hr k hkl
        rw [show off + k * 2 = off + (k : Int).toNat * 2 + 0 from rfl] at q1
        rw [show off + k * 2 = off + (k : Int).toNat * 2 from rfl] at q2
        refine sk ?_
        refine sq ?_
        refine bl ?_
        refine sq ?_
        refine rg ?_
        iterate 2 (refine st (h := O) ?_)
        refine st (h := (sdX (z := 2))) ?_
        refine st (h := sdFA) ?_
        refine st (h := sdL) ?_
        iterate 2 (refine st (h := O) ?_)
        refine nl ?_
        refine cB (fun c1 => ?_) (fun c1 => ?_)
        · refine sq ?_
          refine rg ?_
          iterate 2 (refine st (h := O) ?_)
          refine st (h := (sdX (z := 2))) ?_
          refine st (h := sdFA) ?_
          refine st (h := sdL) ?_
          iterate 2 (refine st (h := O) ?_)
          refine nl ?_
          exact rt ⟨by rw [fnd_at hkl (fun j hj => hb j _ hj) (bq_t c1)], rfl⟩
        · refine sk ?_
          refine bk ?_
          refine rg ?_
          refine st (h := O) ?_
          refine st (h := sdA) ?_
          refine st (h := O) ?_
          refine nl ?_
          refine bk1 (k + 1) (by exact ⟨rfl, trivial⟩) (by exact ⟨rfl, rfl, trivial⟩) (by exact trivial) ?_ ?_
          · omega
          · refine ⟨by omega, fun j hj hjk => ?_⟩
            rcases Nat.lt_or_ge j k with h | h
            · exact hb j hj h
            · obtain rfl : j = k := by omega
              exact bq_f c1
      · obtain rfl : k = l.length := by omega
        refine ex ?_
        refine sq ?_
        refine rg ?_
        iterate 2 (refine st (h := O) ?_)
        refine nl ?_
        exact rt ⟨by rw [fnd_no (fun j hj => hb j hj hj)], rfl⟩
  ·
    refine C.go hT Try.func27 Try.ntmps27 ?_
    refine sq ?_
    refine rg ?_
    iterate 2 (refine st (h := O) ?_)
    refine nl ?_
    iterate 2 (refine sq ?_)
    refine rg ?_
    refine st (h := O) ?_
    refine nl ?_
    refine bl ?_
    refine J.loop1 (α := Nat) (fun k => k = 0) (fun k => [(6, .int .i64 k)]) [(0, _), (1, _)] (fun k => []) [] (fun k => 0) (0) (by exact ⟨rfl, trivial⟩) (by exact ⟨rfl, rfl, trivial⟩) (by exact trivial) ?_ ?_
    · rfl
    · intro k L1 K1 e1 e2 hI
      dsimp only [apV, apR, List.cons_append, List.nil_append] at e1 e2
      subst e1 e2
      subst hI
      iterate 2 (refine sq ?_)
      refine rg ?_
      iterate 4 (refine st (h := O) ?_)
      refine nl ?_
      refine cD (fun c0 => ?_) (fun c0 => ?_)
      · exact absurd c0 (by decide)
      · refine ex ?_
        refine sq ?_
        refine rg ?_
        iterate 2 (refine st (h := O) ?_)
        refine nl ?_
        exact rt ⟨rfl, rfl⟩

end Go.Proofs.Ytfcckfiipbdnkaa.Am
namespace Go.Proofs.Ytfcckfiipbdnkaa.Am
set_option linter.unusedSimpArgs false
set_option linter.unusedVariables false
set_option maxRecDepth 100000
set_option maxHeartbeats 4000000
open Go Go.RowKit
theorem set_CA (F : Mem) (ms : List Int) (at' x : Int) (n c room : Nat) (el : TypeId) (fz : Bool) (h0 : 0 ≤ at') (h1 : at' + 1 < n) (h2 : n = ms.length) (h3 : ms.length ≤ 140737488355328) (hx : i64ok x) : CA Try.prog [500001] [500001] 31 [.slice (some ⟨500001, 0, some 0⟩) n c, .int .i64 at', .int .i64 x] F [(500001, { elem := el, cs := bvs ms, room := room, fz := fz, flat := true })] (fun v Y K' => v = .tuple #[] ∧ Y = [] ∧ K' = [(500001, { elem := el, cs := bvs (putI ms at'.toNat [hiB x, loB x]), room := room, fz := fz, flat := true })]) := by
  unfold i64ok at hx
  refine CA.go hT Try.func31 Try.ntmps31 ?_
  refine rg ?_
  iterate 4 (refine st (h := O) ?_)
  refine st (h := sdA) ?_
  refine st (h := O) ?_
  refine st (h := sdSr) ?_
  iterate 3 (refine st (h := O) ?_)
  refine st (h := (sdX (z := 1))) ?_
  refine soB (ms := ms) ?_
  refine st (h := (sdX (z := 1))) ?_
  refine soB (ms := putI ms (0 + at'.toNat * 1) [hiB x]) ?_
  refine nl ?_
  refine reA [(500001, _)] ⟨rfl, rfl, ?_⟩
  rw [show (at' + 1).toNat = at'.toNat + 1 from by omega, Nat.mul_one, Nat.mul_one, Nat.zero_add, Nat.zero_add]
  rfl
theorem setAt (F : Mem) (u : Nat) (ms : List Int) (at' x : Int) (n c room : Nat) (el : TypeId) (fz : Bool) (h0 : 0 ≤ at') (h1 : at' + 1 < n) (h2 : n = ms.length) (h3 : ms.length ≤ 140737488355328) (hx : i64ok x) : CA Try.prog [u] [u] 31 [.slice (some ⟨u, 0, some 0⟩) n c, .int .i64 at', .int .i64 x] F [(u, { elem := el, cs := bvs ms, room := room, fz := fz, flat := true })] (fun v Y K' => v = .tuple #[] ∧ Y = [] ∧ K' = [(u, { elem := el, cs := bvs (putI ms at'.toNat [hiB x, loB x]), room := room, fz := fz, flat := true })]) :=
  CA.at u (bvs_pl _) (bvs_pl _) rfl (fun _ _ => rfl) (fun _ _ => rfl) (fun _ => rfl) (set_CA F ms at' x n c room el fz h0 h1 h2 h3 hx)
/-- metrics -/
structure Met where
  up : Int
  asc : Int
  desc : Int
  gap : Int
  box : Nat → Int
  long : Bool
  adv : List Int
  bear : List Int
def Met.v (m : Met) (ga : Option Addr) (gc : Nat) (ha : Option Addr) (hc : Nat) : Value := .agg #[.int .i64 m.up, .int .i64 m.asc, .int .i64 m.desc, .int .i64 m.gap, .int .i64 (m.box 0), .int .i64 (m.box 1), .int .i64 (m.box 2), .int .i64 (m.box 3), .bool m.long, .slice ga m.adv.length gc, .slice ha m.bear.length hc]
def sm (x : Int) : Prop := -32768 ≤ x ∧ x ≤ 32767
instance (x : Int) : Decidable (sm x) := inferInstanceAs (Decidable (_ ∧ _))
def Met.pre (m : Met) : Prop := 16 ≤ m.up ∧ m.up ≤ 16384 ∧ sm m.asc ∧ sm m.desc ∧ sm m.gap ∧ 1 ≤ m.adv.length ∧ m.adv.length ≤ 4096 ∧ m.bear.length = m.adv.length
instance (m : Met) : Decidable m.pre := inferInstanceAs (Decidable (_ ∧ _))
def Met.ok (m : Met) (j : Nat) : Prop := 0 ≤ ints m.adv j ∧ ints m.adv j ≤ 65535 ∧ sm (ints m.bear j)
instance (m : Met) (j : Nat) : Decidable (m.ok j) := inferInstanceAs (Decidable (_ ∧ _))
def Met.g4 (m : Met) (k : Nat) : Prop := m.pre ∧ ∀ j < k, sm (m.box j)
instance (m : Met) (k : Nat) : Decidable (m.g4 k) := by unfold Met.g4; infer_instance
def Met.gk (m : Met) (k : Nat) : Prop := m.g4 4 ∧ ∀ j < k, m.ok j
instance (m : Met) (k : Nat) : Decidable (m.gk k) := by unfold Met.gk; infer_instance
def Met.good (m : Met) : Prop := m.gk m.adv.length
instance (m : Met) : Decidable m.good := by unfold Met.good; infer_instance
theorem Met.g4_0 (m : Met) : m.g4 0 ↔ m.pre := ⟨fun h => h.1, fun h => ⟨h, fun j hj => absurd hj (Nat.not_lt_zero _)⟩⟩
theorem Met.g4_s (m : Met) (k : Nat) : m.g4 (k + 1) ↔ m.g4 k ∧ sm (m.box k) := by
  constructor
  · rintro ⟨h, h2⟩
    exact ⟨⟨h, fun j hj => h2 j (by omega)⟩, h2 k (by omega)⟩
  · rintro ⟨⟨h, h2⟩, h3⟩
    refine ⟨h, fun j hj => ?_⟩
    rcases Nat.lt_or_ge j k with h' | h'
    · exact h2 j h'
    · obtain rfl : j = k := by omega
      exact h3
theorem Met.gk_0 (m : Met) : m.gk 0 ↔ m.g4 4 := ⟨fun h => h.1, fun h => ⟨h, fun j hj => absurd hj (Nat.not_lt_zero _)⟩⟩
theorem Met.gk_s (m : Met) (k : Nat) : m.gk (k + 1) ↔ m.gk k ∧ m.ok k := by
  constructor
  · rintro ⟨h, h2⟩
    exact ⟨⟨h, fun j hj => h2 j (by omega)⟩, h2 k (by omega)⟩
  · rintro ⟨⟨h, h2⟩, h3⟩
    refine ⟨h, fun j hj => ?_⟩
    rcases Nat.lt_or_ge j k with h' | h'
    · exact h2 j h'
    · obtain rfl : j = k := by omega
      exact h3
theorem Met.gk_le (m : Met) {k n : Nat} (h : k ≤ n) (hg : m.gk n) : m.gk k := ⟨hg.1, fun j hj => hg.2 j (by omega)⟩
theorem Met.gk_bear {m : Met} {k : Nat} (h : m.gk k) : m.bear.length = m.adv.length := h.1.1.2.2.2.2.2.2.2
theorem Met.rV (m : Met) {ga ha : Option Addr} (hga : PlA ga) (hha : PlA ha) (gc hc : Nat) (ι : Nat → Nat) : Am.rV ι (m.v ga gc ha hc) = m.v ga gc ha hc := by
  show Value.agg ⟨_⟩ = _
  simp only [Met.v, List.map_cons, List.map_nil, hga.r, hha.r]
  rfl
theorem mGood_C (F : Mem) (m : Met) (ga ha : Option Addr) (gc hc : Nat) (hga : RIx F ga m.adv) (hha : RIx F ha m.bear) : C0 Try.prog 18 [m.v ga gc ha hc] F (.bool (decide m.good)) := by
  unfold Met.v
  refine C.go hT Try.func18 Try.ntmps18 ?_
  refine sq ?_
  refine rg ?_
  refine bx (hL := by simp [ntL, ntV, nt2, argL, nt1_i, nt1_b, hga.pl.nt, hha.pl.nt]) ?_
  refine st (h := O) ?_
  refine nl ?_
  refine sq ?_
  refine J.cut1 (α := Bool) (fun q => q = decide m.pre) (fun q => [(3, .bool q)]) [(1, _)] (fun q => []) [(1, _)] (by exact ⟨rfl, trivial⟩) (by exact ⟨rfl, rfl, trivial⟩) ?_ ?_
  · refine rg ?_
    refine st (h := sdFA) ?_
    refine st (h := sdL) ?_
    iterate 2 (refine st (h := O) ?_)
    refine gD (fun g10 => ?_) (fun g10 => ?_)
    · refine sg (h := sdFA) ?_
      refine sg (h := sdL) ?_
      refine sg (h := O) ?_
      iterate 2 (refine st (h := O) ?_)
      refine gD (fun g15 => ?_) (fun g15 => ?_)
      · refine sg (h := sdFA) ?_
        refine sg (h := sdL) ?_
        refine clg (h := by exact fun ι hV hl => mSmall_C _ _) ?_
        iterate 2 (refine st (h := O) ?_)
        refine gB (fun g20 => ?_) (fun g20 => ?_)
        · refine sg (h := sdFA) ?_
          refine sg (h := sdL) ?_
          refine clg (h := by exact fun ι hV hl => mSmall_C _ _) ?_
          iterate 2 (refine st (h := O) ?_)
          refine gB (fun g25 => ?_) (fun g25 => ?_)
          · refine sg (h := sdFA) ?_
            refine sg (h := sdL) ?_
            refine clg (h := by exact fun ι hV hl => mSmall_C _ _) ?_
            iterate 2 (refine st (h := O) ?_)
            refine gB (fun g30 => ?_) (fun g30 => ?_)
            · refine sg (h := sdFA) ?_
              refine sg (h := sdL) ?_
              iterate 2 (refine sg (h := O) ?_)
              iterate 2 (refine st (h := O) ?_)
              refine gD (fun g36 => ?_) (fun g36 => ?_)
              · refine sg (h := sdFA) ?_
                refine sg (h := sdL) ?_
                iterate 2 (refine sg (h := O) ?_)
                iterate 2 (refine st (h := O) ?_)
                refine gD (fun g42 => ?_) (fun g42 => ?_)
                · refine sg (h := sdFA) ?_
                  refine sg (h := sdL) ?_
                  refine sg (h := O) ?_
                  refine sg (h := sdFA) ?_
                  refine sg (h := sdL) ?_
                  iterate 2 (refine sg (h := O) ?_)
                  iterate 2 (refine st (h := O) ?_)
                  refine nl ?_
                  refine ck1 (_) (by exact ⟨rfl, trivial⟩) (by exact ⟨rfl, trivial⟩) (by exact ⟨rfl, rfl, trivial⟩) ?_
                  (try simp only [decide_eq_true_eq, decide_eq_false_iff_not] at *)
                  first
                    | (rw [eq_comm, decide_eq_false_iff_not]; unfold Met.pre sm; omega)
                    | (rw [decide_eq_decide]; unfold Met.pre sm; omega)
                · refine sp ?_
                  iterate 6 (refine sp ?_)
                  iterate 2 (refine st (h := O) ?_)
                  refine nl ?_
                  refine ck1 (_) (by exact ⟨rfl, trivial⟩) (by exact ⟨rfl, trivial⟩) (by exact ⟨rfl, rfl, trivial⟩) ?_
                  (try simp only [decide_eq_true_eq, decide_eq_false_iff_not] at *)
                  first
                    | (rw [eq_comm, decide_eq_false_iff_not]; unfold Met.pre sm; omega)
                    | (rw [decide_eq_decide]; unfold Met.pre sm; omega)
              · refine sp ?_
                iterate 3 (refine sp ?_)
                iterate 2 (refine st (h := O) ?_)
                iterate 7 (refine sp ?_)
                iterate 2 (refine st (h := O) ?_)
                refine nl ?_
                refine ck1 (_) (by exact ⟨rfl, trivial⟩) (by exact ⟨rfl, trivial⟩) (by exact ⟨rfl, rfl, trivial⟩) ?_
                (try simp only [decide_eq_true_eq, decide_eq_false_iff_not] at *)
                first
                  | (rw [eq_comm, decide_eq_false_iff_not]; unfold Met.pre sm; omega)
                  | (rw [decide_eq_decide]; unfold Met.pre sm; omega)
            · refine sp ?_
              iterate 3 (refine sp ?_)
              iterate 2 (refine st (h := O) ?_)
              iterate 4 (refine sp ?_)
              iterate 2 (refine st (h := O) ?_)
              iterate 7 (refine sp ?_)
              iterate 2 (refine st (h := O) ?_)
              refine nl ?_
              refine ck1 (_) (by exact ⟨rfl, trivial⟩) (by exact ⟨rfl, trivial⟩) (by exact ⟨rfl, rfl, trivial⟩) ?_
              (try simp only [decide_eq_true_eq, decide_eq_false_iff_not] at *)
              first
                | (rw [eq_comm, decide_eq_false_iff_not]; unfold Met.pre sm; omega)
                | (rw [decide_eq_decide]; unfold Met.pre sm; omega)
          · refine sp ?_
            iterate 2 (refine sp ?_)
            iterate 2 (refine st (h := O) ?_)
            iterate 4 (refine sp ?_)
            iterate 2 (refine st (h := O) ?_)
            iterate 4 (refine sp ?_)
            iterate 2 (refine st (h := O) ?_)
            iterate 7 (refine sp ?_)
            iterate 2 (refine st (h := O) ?_)
            refine nl ?_
            refine ck1 (_) (by exact ⟨rfl, trivial⟩) (by exact ⟨rfl, trivial⟩) (by exact ⟨rfl, rfl, trivial⟩) ?_
            (try simp only [decide_eq_true_eq, decide_eq_false_iff_not] at *)
            first
              | (rw [eq_comm, decide_eq_false_iff_not]; unfold Met.pre sm; omega)
              | (rw [decide_eq_decide]; unfold Met.pre sm; omega)
        · refine sp ?_
          iterate 2 (refine sp ?_)
          iterate 2 (refine st (h := O) ?_)
          iterate 3 (refine sp ?_)
          iterate 2 (refine st (h := O) ?_)
          iterate 4 (refine sp ?_)
          iterate 2 (refine st (h := O) ?_)
          iterate 4 (refine sp ?_)
          iterate 2 (refine st (h := O) ?_)
          iterate 7 (refine sp ?_)
          iterate 2 (refine st (h := O) ?_)
          refine nl ?_
          refine ck1 (_) (by exact ⟨rfl, trivial⟩) (by exact ⟨rfl, trivial⟩) (by exact ⟨rfl, rfl, trivial⟩) ?_
          (try simp only [decide_eq_true_eq, decide_eq_false_iff_not] at *)
          first
            | (rw [eq_comm, decide_eq_false_iff_not]; unfold Met.pre sm; omega)
            | (rw [decide_eq_decide]; unfold Met.pre sm; omega)
      · refine sp ?_
        iterate 2 (refine sp ?_)
        iterate 2 (refine st (h := O) ?_)
        iterate 3 (refine sp ?_)
        iterate 2 (refine st (h := O) ?_)
        iterate 3 (refine sp ?_)
        iterate 2 (refine st (h := O) ?_)
        iterate 4 (refine sp ?_)
        iterate 2 (refine st (h := O) ?_)
        iterate 4 (refine sp ?_)
        iterate 2 (refine st (h := O) ?_)
        iterate 7 (refine sp ?_)
        iterate 2 (refine st (h := O) ?_)
        refine nl ?_
        refine ck1 (_) (by exact ⟨rfl, trivial⟩) (by exact ⟨rfl, trivial⟩) (by exact ⟨rfl, rfl, trivial⟩) ?_
        (try simp only [decide_eq_true_eq, decide_eq_false_iff_not] at *)
        first
          | (rw [eq_comm, decide_eq_false_iff_not]; unfold Met.pre sm; omega)
          | (rw [decide_eq_decide]; unfold Met.pre sm; omega)
    · refine sp ?_
      iterate 2 (refine sp ?_)
      iterate 2 (refine st (h := O) ?_)
      iterate 3 (refine sp ?_)
      iterate 2 (refine st (h := O) ?_)
      iterate 3 (refine sp ?_)
      iterate 2 (refine st (h := O) ?_)
      iterate 3 (refine sp ?_)
      iterate 2 (refine st (h := O) ?_)
      iterate 4 (refine sp ?_)
      iterate 2 (refine st (h := O) ?_)
      iterate 4 (refine sp ?_)
      iterate 2 (refine st (h := O) ?_)
      iterate 7 (refine sp ?_)
      iterate 2 (refine st (h := O) ?_)
      refine nl ?_
      refine ck1 (_) (by exact ⟨rfl, trivial⟩) (by exact ⟨rfl, trivial⟩) (by exact ⟨rfl, rfl, trivial⟩) ?_
      (try simp only [decide_eq_true_eq, decide_eq_false_iff_not] at *)
      first
        | (rw [eq_comm, decide_eq_false_iff_not]; unfold Met.pre sm; omega)
        | (rw [decide_eq_decide]; unfold Met.pre sm; omega)
  · intro q L1 K1 e1 e2 hI
    dsimp only [List.cons_append, List.nil_append] at e1 e2
    subst e1 e2
    iterate 2 (refine sq ?_)
    refine rg ?_
    refine st (h := sdFA) ?_
    refine st (h := sdLN (cs := gI m.box 4)) ?_
    refine st (h := O) ?_
    refine nl ?_
    refine bl ?_
    refine J.loop2 (α := Nat) (β := Bool) (fun k q => k ≤ 4 ∧ q = decide (m.g4 k)) (fun k q => [(3, .bool q), (53, .int .i64 k)]) [(1, _), (52, _)] (fun k q => []) [(1, _)] (fun k q => 4 - k) (0) (_) (by exact ⟨rfl, rfl, trivial⟩) (by exact ⟨rfl, rfl, trivial⟩) (by exact ⟨rfl, rfl, trivial⟩) ?_ ?_
    · exact ⟨Nat.zero_le _, by rw [hI, decide_eq_decide]; exact m.g4_0.symm⟩
    · intro k q L1 K1 e1 e2 hI
      dsimp only [apV, apR, List.cons_append, List.nil_append] at e1 e2
      subst e1 e2
      obtain ⟨hk, hq⟩ := hI
      refine sq ?_
      refine rg ?_
      refine st (h := O) ?_
      refine nl ?_
      refine sq ?_
      refine cD (fun c0 => ?_) (fun c0 => ?_)
      · have hk4 : k < 4 := by omega
        refine sk ?_
        refine sq ?_
        refine bl ?_
        refine sq ?_
        refine rg ?_
        refine st (h := sdXG) ?_
        refine st (h := O) ?_
        refine nl ?_
        refine rg ?_
        iterate 2 (refine st (h := O) ?_)
        refine gB (fun g57 => ?_) (fun g57 => ?_)
        · refine sg (h := O) ?_
          refine clg (h := by exact fun ι hV hl => mSmall_C _ _) ?_
          iterate 2 (refine st (h := O) ?_)
          refine nl ?_
          refine bk ?_
          refine rg ?_
          refine st (h := sdA) ?_
          refine st (h := O) ?_
          refine nl ?_
          refine bk2 (k + 1) (_) (by exact ⟨rfl, rfl, trivial⟩) (by exact ⟨rfl, rfl, trivial⟩) (by exact ⟨rfl, rfl, trivial⟩) ?_ ?_
          · omega
          · refine ⟨by omega, ?_⟩
            first
              | (rw [eq_comm, decide_eq_false_iff_not, m.g4_s k]; intro h; rw [g57, eq_comm, decide_eq_false_iff_not] at hq; exact hq h.1)
              | (rw [g57, eq_comm, decide_eq_true_eq] at hq; rw [decide_eq_decide, m.g4_s k]; exact ⟨fun h => ⟨hq, h⟩, fun h => h.2⟩)
        · refine sp ?_
          refine sp ?_
          iterate 2 (refine st (h := O) ?_)
          refine nl ?_
          refine bk ?_
          refine rg ?_
          refine st (h := sdA) ?_
          refine st (h := O) ?_
          refine nl ?_
          refine bk2 (k + 1) (_) (by exact ⟨rfl, rfl, trivial⟩) (by exact ⟨rfl, rfl, trivial⟩) (by exact ⟨rfl, rfl, trivial⟩) ?_ ?_
          · omega
          · refine ⟨by omega, ?_⟩
            first
              | (rw [eq_comm, decide_eq_false_iff_not, m.g4_s k]; intro h; rw [g57, eq_comm, decide_eq_false_iff_not] at hq; exact hq h.1)
              | (rw [g57, eq_comm, decide_eq_true_eq] at hq; rw [decide_eq_decide, m.g4_s k]; exact ⟨fun h => ⟨hq, h⟩, fun h => h.2⟩)
      · obtain rfl : k = 4 := by omega
        refine ex ?_
        iterate 2 (refine sq ?_)
        refine rg ?_
        refine st (h := O) ?_
        refine nl ?_
        refine bl ?_
        refine J.loop2 (α := Nat) (β := Bool) (fun k q => k ≤ m.adv.length ∧ q = decide (m.gk k)) (fun k q => [(3, .bool q), (6, .int .i64 k)]) [(1, _)] (fun k q => []) [(1, _)] (fun k q => m.adv.length - k) (0) (_) (by exact ⟨rfl, rfl, trivial⟩) (by exact ⟨rfl, trivial⟩) (by exact ⟨rfl, rfl, trivial⟩) ?_ ?_
        · exact ⟨Nat.zero_le _, by rw [hq, decide_eq_decide]; exact m.gk_0.symm⟩
        · intro k q L1 K1 e1 e2 hI
          dsimp only [apV, apR, List.cons_append, List.nil_append] at e1 e2
          subst e1 e2
          obtain ⟨hk1, hq1⟩ := hI
          have h63 := hga.h63
          iterate 2 (refine sq ?_)
          refine rg ?_
          refine st (h := O) ?_
          refine st (h := sdFA) ?_
          refine st (h := sdL) ?_
          iterate 3 (refine st (h := O) ?_)
          refine gD (fun g67 => ?_) (fun g67 => ?_)
          · refine sg (h := O) ?_
            refine st (h := O) ?_
            refine nl ?_
            refine cB (fun c1 => ?_) (fun c1 => ?_)
            · have hkl : k < m.adv.length := by omega
              rw [c1, eq_comm, decide_eq_true_eq] at hq1
              have hbl := Met.gk_bear hq1
              obtain ⟨ab, ao, rfl, har⟩ := hga.rd (by omega)
              obtain ⟨bb, bo, rfl, hbr⟩ := hha.rd (by omega)
              have q1 : look F ⟨ab, ao + (k : Int).toNat * 1, none⟩ = some (.int .i64 (ints m.adv k)) := by rw [Nat.mul_one]; exact har k _ (ints_get hkl)
              have q2 : look F ⟨bb, bo + (k : Int).toNat * 1, none⟩ = some (.int .i64 (ints m.bear k)) := by rw [Nat.mul_one]; exact hbr k _ (ints_get (by omega))
              refine sk ?_
              refine sq ?_
              refine bl ?_
              refine rg ?_
              refine st (h := sdFA) ?_
              refine st (h := sdL) ?_
              refine st (h := O) ?_
              refine st (h := (sdX (z := 1))) ?_
              refine st (h := (by first | exact sdLG | exact sdW)) ?_
              iterate 2 (refine st (h := O) ?_)
              refine gD (fun g78 => ?_) (fun g78 => ?_)
              · refine sg (h := sdFA) ?_
                refine sg (h := sdL) ?_
                refine sg (h := O) ?_
                refine sg (h := (sdX (z := 1))) ?_
                refine sg (h := (by first | exact sdLG | exact sdW)) ?_
                refine sg (h := O) ?_
                iterate 2 (refine st (h := O) ?_)
                refine gD (fun g86 => ?_) (fun g86 => ?_)
                · refine sg (h := sdFA) ?_
                  refine sg (h := sdL) ?_
                  refine sg (h := O) ?_
                  refine sg (h := (sdX (z := 1))) ?_
                  refine sg (h := (by first | exact sdLG | exact sdW)) ?_
                  refine clg (h := by exact fun ι hV hl => mSmall_C _ _) ?_
                  iterate 2 (refine st (h := O) ?_)
                  refine nl ?_
                  refine bk ?_
                  refine rg ?_
                  refine st (h := O) ?_
                  refine st (h := sdA) ?_
                  refine st (h := O) ?_
                  refine nl ?_
                  refine bk2 (k + 1) (_) (by exact ⟨rfl, rfl, trivial⟩) (by exact ⟨rfl, trivial⟩) (by exact ⟨rfl, rfl, trivial⟩) ?_ ?_
                  · omega
                  · refine ⟨by omega, ?_⟩
                    (try simp only [decide_eq_true_eq, decide_eq_false_iff_not] at *)
                    first
                      | (rw [eq_comm, decide_eq_false_iff_not, m.gk_s k]; rintro ⟨_, h⟩; unfold Met.ok sm at h; omega)
                      | (rw [decide_eq_decide, m.gk_s k]; unfold Met.ok sm; exact ⟨fun h => ⟨hq1, by omega, by omega, h⟩, fun h => h.2.2.2⟩)
                · refine sp ?_
                  iterate 5 (refine sp ?_)
                  iterate 2 (refine st (h := O) ?_)
                  refine nl ?_
                  refine bk ?_
                  refine rg ?_
                  refine st (h := O) ?_
                  refine st (h := sdA) ?_
                  refine st (h := O) ?_
                  refine nl ?_
                  refine bk2 (k + 1) (_) (by exact ⟨rfl, rfl, trivial⟩) (by exact ⟨rfl, trivial⟩) (by exact ⟨rfl, rfl, trivial⟩) ?_ ?_
                  · omega
                  · refine ⟨by omega, ?_⟩
                    (try simp only [decide_eq_true_eq, decide_eq_false_iff_not] at *)
                    first
                      | (rw [eq_comm, decide_eq_false_iff_not, m.gk_s k]; rintro ⟨_, h⟩; unfold Met.ok sm at h; omega)
                      | (rw [decide_eq_decide, m.gk_s k]; unfold Met.ok sm; exact ⟨fun h => ⟨hq1, by omega, by omega, h⟩, fun h => h.2.2.2⟩)
              · refine sp ?_
                iterate 5 (refine sp ?_)
                iterate 2 (refine st (h := O) ?_)
                iterate 6 (refine sp ?_)
                iterate 2 (refine st (h := O) ?_)
                refine nl ?_
                refine bk ?_
                refine rg ?_
                refine st (h := O) ?_
                refine st (h := sdA) ?_
                refine st (h := O) ?_
                refine nl ?_
                refine bk2 (k + 1) (_) (by exact ⟨rfl, rfl, trivial⟩) (by exact ⟨rfl, trivial⟩) (by exact ⟨rfl, rfl, trivial⟩) ?_ ?_
                · omega
                · refine ⟨by omega, ?_⟩
                  (try simp only [decide_eq_true_eq, decide_eq_false_iff_not] at *)
                  first
                    | (rw [eq_comm, decide_eq_false_iff_not, m.gk_s k]; rintro ⟨_, h⟩; unfold Met.ok sm at h; omega)
                    | (rw [decide_eq_decide, m.gk_s k]; unfold Met.ok sm; exact ⟨fun h => ⟨hq1, by omega, by omega, h⟩, fun h => h.2.2.2⟩)
            · rw [c1, eq_comm, decide_eq_false_iff_not] at hq1
              refine ex ?_
              refine sq ?_
              refine rg ?_
              iterate 2 (refine st (h := O) ?_)
              refine nl ?_
              refine rt ⟨congrArg Value.bool ?_, rfl⟩
              first
                | (obtain rfl : k = m.adv.length := by omega
                   exact hq1)
                | (rw [eq_comm, c1, decide_eq_false_iff_not]; exact fun h => hq1 (m.gk_le hk1 h))
          · refine sp ?_
            refine st (h := O) ?_
            refine nl ?_
            refine cF ?_
            refine ex ?_
            refine sq ?_
            refine rg ?_
            iterate 2 (refine st (h := O) ?_)
            refine nl ?_
            refine rt ⟨congrArg Value.bool ?_, rfl⟩
            first
              | (obtain rfl : k = m.adv.length := by omega
                 exact hq1)
              | (rw [eq_comm, c1, decide_eq_false_iff_not]; exact fun h => hq1 (m.gk_le hk1 h))

end Go.Proofs.Ytfcckfiipbdnkaa.Am
namespace Go.Proofs.Ytfcckfiipbdnkaa.Am
set_option linter.unusedSimpArgs false
set_option linter.unusedVariables false
set_option maxRecDepth 100000
set_option maxHeartbeats 4000000
open Go Go.RowKit
theorem Met.ngood (m : Met) (h : ¬ m.pre) : false = decide m.good := by
  rw [eq_comm, decide_eq_false_iff_not]; exact fun g => h g.1.1
theorem Met.ngood4 (m : Met) {k : Nat} (hk : k < 4) (h : ¬ sm (m.box k)) : false = decide m.good := by
  rw [eq_comm, decide_eq_false_iff_not]; exact fun g => h (g.1.2 k hk)
theorem Met.ngoodk (m : Met) {k : Nat} (hk : k < m.adv.length) (h : ¬ m.ok k) : false = decide m.good := by
  rw [eq_comm, decide_eq_false_iff_not]; exact fun g => h (g.2 k hk)
theorem rGood_C (F : Mem) (m : Met) (ga ha : Option Addr) (gc hc : Nat) (hga : RIx F ga m.adv) (hha : RIx F ha m.bear) : C0 Try.prog 19 [m.v ga gc ha hc] F (.bool (decide m.good)) := by
  unfold Met.v
  refine C.go hT Try.func19 Try.ntmps19 ?_
  refine sq ?_
  refine rg ?_
  refine bx (hL := by simp [ntL, ntV, nt2, argL, nt1_i, nt1_b, hga.pl.nt, hha.pl.nt]) ?_
  refine st (h := O) ?_
  refine nl ?_
  refine sq ?_
  refine rg ?_
  refine st (h := sdFA) ?_
  refine st (h := sdL) ?_
  iterate 2 (refine st (h := O) ?_)
  refine nl ?_
  iterate 2 (refine sq ?_)
  refine rg ?_
  refine st (h := sdFA) ?_
  refine st (h := sdL) ?_
  iterate 2 (refine st (h := O) ?_)
  refine gD (fun g12 => ?_) (fun g12 => ?_)
  · refine sp ?_
    iterate 2 (refine sp ?_)
    iterate 2 (refine st (h := O) ?_)
    iterate 4 (refine sp ?_)
    iterate 2 (refine st (h := O) ?_)
    iterate 4 (refine sp ?_)
    iterate 2 (refine st (h := O) ?_)
    iterate 4 (refine sp ?_)
    iterate 2 (refine st (h := O) ?_)
    iterate 2 (refine sp ?_)
    iterate 2 (refine st (h := O) ?_)
    iterate 2 (refine sp ?_)
    iterate 2 (refine st (h := O) ?_)
    iterate 5 (refine sp ?_)
    refine st (h := O) ?_
    refine nl ?_
    refine cT ?_
    refine sq ?_
    refine rg ?_
    refine st (h := O) ?_
    refine nl ?_
    first
      | exact rt ⟨congrArg Value.bool (decide_eq_true (show m.good from hq1)).symm, rfl⟩
      | (refine rt ⟨congrArg Value.bool (m.ngood ?_), rfl⟩
         (try simp only [Bool.not_eq_true', Bool.not_eq_false', decide_eq_true_eq, decide_eq_false_iff_not] at *)
         unfold Met.pre sm
         omega)
  · refine sg (h := sdFA) ?_
    refine sg (h := sdL) ?_
    refine sg (h := O) ?_
    iterate 2 (refine st (h := O) ?_)
    refine gD (fun g17 => ?_) (fun g17 => ?_)
    · refine sp ?_
      iterate 3 (refine sp ?_)
      iterate 2 (refine st (h := O) ?_)
      iterate 4 (refine sp ?_)
      iterate 2 (refine st (h := O) ?_)
      iterate 4 (refine sp ?_)
      iterate 2 (refine st (h := O) ?_)
      iterate 2 (refine sp ?_)
      iterate 2 (refine st (h := O) ?_)
      iterate 2 (refine sp ?_)
      iterate 2 (refine st (h := O) ?_)
      iterate 5 (refine sp ?_)
      refine st (h := O) ?_
      refine nl ?_
      refine cT ?_
      refine sq ?_
      refine rg ?_
      refine st (h := O) ?_
      refine nl ?_
      first
        | exact rt ⟨congrArg Value.bool (decide_eq_true (show m.good from hq1)).symm, rfl⟩
        | (refine rt ⟨congrArg Value.bool (m.ngood ?_), rfl⟩
           (try simp only [Bool.not_eq_true', Bool.not_eq_false', decide_eq_true_eq, decide_eq_false_iff_not] at *)
           unfold Met.pre sm
           omega)
    · refine sg (h := sdFA) ?_
      refine sg (h := sdL) ?_
      refine clg (h := by exact fun ι hV hl => rShort_C _ _) ?_
      refine sg (h := O) ?_
      iterate 2 (refine st (h := O) ?_)
      refine gB (fun g23 => ?_) (fun g23 => ?_)
      · refine sp ?_
        iterate 3 (refine sp ?_)
        iterate 2 (refine st (h := O) ?_)
        iterate 4 (refine sp ?_)
        iterate 2 (refine st (h := O) ?_)
        iterate 2 (refine sp ?_)
        iterate 2 (refine st (h := O) ?_)
        iterate 2 (refine sp ?_)
        iterate 2 (refine st (h := O) ?_)
        iterate 5 (refine sp ?_)
        refine st (h := O) ?_
        refine nl ?_
        refine cT ?_
        refine sq ?_
        refine rg ?_
        refine st (h := O) ?_
        refine nl ?_
        first
          | exact rt ⟨congrArg Value.bool (decide_eq_true (show m.good from hq1)).symm, rfl⟩
          | (refine rt ⟨congrArg Value.bool (m.ngood ?_), rfl⟩
             (try simp only [Bool.not_eq_true', Bool.not_eq_false', decide_eq_true_eq, decide_eq_false_iff_not] at *)
             unfold Met.pre sm
             omega)
      · refine sg (h := sdFA) ?_
        refine sg (h := sdL) ?_
        refine clg (h := by exact fun ι hV hl => rShort_C _ _) ?_
        refine sg (h := O) ?_
        iterate 2 (refine st (h := O) ?_)
        refine gB (fun g29 => ?_) (fun g29 => ?_)
        · refine sp ?_
          iterate 3 (refine sp ?_)
          iterate 2 (refine st (h := O) ?_)
          iterate 2 (refine sp ?_)
          iterate 2 (refine st (h := O) ?_)
          iterate 2 (refine sp ?_)
          iterate 2 (refine st (h := O) ?_)
          iterate 5 (refine sp ?_)
          refine st (h := O) ?_
          refine nl ?_
          refine cT ?_
          refine sq ?_
          refine rg ?_
          refine st (h := O) ?_
          refine nl ?_
          first
            | exact rt ⟨congrArg Value.bool (decide_eq_true (show m.good from hq1)).symm, rfl⟩
            | (refine rt ⟨congrArg Value.bool (m.ngood ?_), rfl⟩
               (try simp only [Bool.not_eq_true', Bool.not_eq_false', decide_eq_true_eq, decide_eq_false_iff_not] at *)
               unfold Met.pre sm
               omega)
        · refine sg (h := sdFA) ?_
          refine sg (h := sdL) ?_
          refine clg (h := by exact fun ι hV hl => rShort_C _ _) ?_
          refine sg (h := O) ?_
          iterate 2 (refine st (h := O) ?_)
          refine gB (fun g35 => ?_) (fun g35 => ?_)
          · refine sp ?_
            refine sp ?_
            iterate 2 (refine st (h := O) ?_)
            iterate 2 (refine sp ?_)
            iterate 2 (refine st (h := O) ?_)
            iterate 5 (refine sp ?_)
            refine st (h := O) ?_
            refine nl ?_
            refine cT ?_
            refine sq ?_
            refine rg ?_
            refine st (h := O) ?_
            refine nl ?_
            first
              | exact rt ⟨congrArg Value.bool (decide_eq_true (show m.good from hq1)).symm, rfl⟩
              | (refine rt ⟨congrArg Value.bool (m.ngood ?_), rfl⟩
                 (try simp only [Bool.not_eq_true', Bool.not_eq_false', decide_eq_true_eq, decide_eq_false_iff_not] at *)
                 unfold Met.pre sm
                 omega)
          · refine sg (h := O) ?_
            refine sg (h := O) ?_
            iterate 2 (refine st (h := O) ?_)
            refine gD (fun g39 => ?_) (fun g39 => ?_)
            · refine sp ?_
              refine sp ?_
              iterate 2 (refine st (h := O) ?_)
              iterate 5 (refine sp ?_)
              refine st (h := O) ?_
              refine nl ?_
              refine cT ?_
              refine sq ?_
              refine rg ?_
              refine st (h := O) ?_
              refine nl ?_
              first
                | exact rt ⟨congrArg Value.bool (decide_eq_true (show m.good from hq1)).symm, rfl⟩
                | (refine rt ⟨congrArg Value.bool (m.ngood ?_), rfl⟩
                   (try simp only [Bool.not_eq_true', Bool.not_eq_false', decide_eq_true_eq, decide_eq_false_iff_not] at *)
                   unfold Met.pre sm
                   omega)
            · refine sg (h := O) ?_
              refine sg (h := O) ?_
              iterate 2 (refine st (h := O) ?_)
              refine gD (fun g43 => ?_) (fun g43 => ?_)
              · refine sp ?_
                iterate 4 (refine sp ?_)
                refine st (h := O) ?_
                refine nl ?_
                refine cT ?_
                refine sq ?_
                refine rg ?_
                refine st (h := O) ?_
                refine nl ?_
                first
                  | exact rt ⟨congrArg Value.bool (decide_eq_true (show m.good from hq1)).symm, rfl⟩
                  | (refine rt ⟨congrArg Value.bool (m.ngood ?_), rfl⟩
                     (try simp only [Bool.not_eq_true', Bool.not_eq_false', decide_eq_true_eq, decide_eq_false_iff_not] at *)
                     unfold Met.pre sm
                     omega)
              · refine sg (h := sdFA) ?_
                refine sg (h := sdL) ?_
                iterate 3 (refine sg (h := O) ?_)
                refine st (h := O) ?_
                refine nl ?_
                refine cN (fun c0 => ?_) (fun c0 => ?_)
                · refine sq ?_
                  refine rg ?_
                  refine st (h := O) ?_
                  refine nl ?_
                  first
                    | exact rt ⟨congrArg Value.bool (decide_eq_true (show m.good from hq1)).symm, rfl⟩
                    | (refine rt ⟨congrArg Value.bool (m.ngood ?_), rfl⟩
                       (try simp only [Bool.not_eq_true', Bool.not_eq_false', decide_eq_true_eq, decide_eq_false_iff_not] at *)
                       unfold Met.pre sm
                       omega)
                · (try simp only [Bool.not_eq_true', Bool.not_eq_false', decide_eq_true_eq, decide_eq_false_iff_not] at *)
                  have hp : m.pre := by unfold Met.pre sm; omega
                  refine sk ?_
                  iterate 2 (refine sq ?_)
                  refine rg ?_
                  refine st (h := O) ?_
                  refine nl ?_
                  refine bl ?_
                  refine J.loop1 (α := Nat) (fun k => k ≤ 4 ∧ m.g4 k) (fun k => [(4, .int .i64 k)]) [(1, _), (3, _)] (fun k => []) [(1, _)] (fun k => 4 - k) (0) (by exact ⟨rfl, trivial⟩) (by exact ⟨rfl, rfl, trivial⟩) (by exact ⟨rfl, rfl, trivial⟩) ?_ ?_
                  · exact ⟨Nat.zero_le _, m.g4_0.2 hp⟩
                  · intro k L1 K1 e1 e2 hI
                    dsimp only [apV, apR, List.cons_append, List.nil_append] at e1 e2
                    subst e1 e2
                    obtain ⟨hk, hq⟩ := hI
                    iterate 2 (refine sq ?_)
                    refine rg ?_
                    iterate 2 (refine st (h := O) ?_)
                    refine nl ?_
                    refine cD (fun c1 => ?_) (fun c1 => ?_)
                    · have hk4 : k < 4 := by omega
                      refine sk ?_
                      refine sq ?_
                      refine bl ?_
                      refine sq ?_
                      refine rg ?_
                      refine st (h := O) ?_
                      refine st (h := sdFA) ?_
                      refine st (h := (sdXA (z := 1))) ?_
                      refine st (h := sdL (v := .int .i64 (m.box k)) (hv := by rcases (show k = 0 ∨ k = 1 ∨ k = 2 ∨ k = 3 from by omega) with rfl | rfl | rfl | rfl <;> rfl)) ?_
                      refine cl (h := by exact fun ι hV hl => rShort_C _ _) ?_
                      refine st (h := O) ?_
                      refine nl ?_
                      refine cB (fun c2 => ?_) (fun c2 => ?_)
                      · refine sq ?_
                        refine rg ?_
                        refine st (h := O) ?_
                        refine nl ?_
                        exact rt ⟨congrArg Value.bool (m.ngood4 hk4 (by unfold sm; simp at c2; omega)), rfl⟩
                      · have hs : sm (m.box k) := by unfold sm; simp at c2; omega
                        refine sk ?_
                        refine bk ?_
                        refine rg ?_
                        refine st (h := O) ?_
                        refine st (h := sdA) ?_
                        refine st (h := O) ?_
                        refine nl ?_
                        refine bk1 (k + 1) (by exact ⟨rfl, trivial⟩) (by exact ⟨rfl, rfl, trivial⟩) (by exact ⟨rfl, rfl, trivial⟩) ?_ ?_
                        · omega
                        · exact ⟨by omega, (m.g4_s k).2 ⟨hq, hs⟩⟩
                    · obtain rfl : k = 4 := by omega
                      have hbl : m.bear.length = m.adv.length := hp.2.2.2.2.2.2.2
                      have h63 := hga.h63
                      refine ex ?_
                      iterate 2 (refine sq ?_)
                      refine rg ?_
                      refine st (h := O) ?_
                      refine nl ?_
                      refine bl ?_
                      refine J.loop1 (α := Nat) (fun k => k ≤ m.adv.length ∧ m.gk k) (fun k => [(5, .int .i64 k)]) [(1, _), (3, _)] (fun k => []) [(1, _)] (fun k => m.adv.length - k) (0) (by exact ⟨rfl, trivial⟩) (by exact ⟨rfl, rfl, trivial⟩) (by exact ⟨rfl, rfl, trivial⟩) ?_ ?_
                      · exact ⟨Nat.zero_le _, m.gk_0.2 hq⟩
                      · intro k L1 K1 e1 e2 hI
                        dsimp only [apV, apR, List.cons_append, List.nil_append] at e1 e2
                        subst e1 e2
                        obtain ⟨hk1, hq1⟩ := hI
                        iterate 2 (refine sq ?_)
                        refine rg ?_
                        iterate 3 (refine st (h := O) ?_)
                        refine nl ?_
                        refine cD (fun c3 => ?_) (fun c3 => ?_)
                        · have hkl : k < m.adv.length := by omega
                          obtain ⟨ab, ao, rfl, har⟩ := hga.rd (by omega)
                          obtain ⟨bb, bo, rfl, hbr⟩ := hha.rd (by omega)
                          have q1 : look F ⟨ab, ao + (k : Int).toNat * 1, none⟩ = some (.int .i64 (ints m.adv k)) := by rw [Nat.mul_one]; exact har k _ (ints_get hkl)
                          have q2 : look F ⟨bb, bo + (k : Int).toNat * 1, none⟩ = some (.int .i64 (ints m.bear k)) := by rw [Nat.mul_one]; exact hbr k _ (ints_get (by omega))
                          refine sk ?_
                          refine sq ?_
                          refine bl ?_
                          refine sq ?_
                          refine rg ?_
                          refine st (h := sdFA) ?_
                          refine st (h := sdL) ?_
                          refine st (h := O) ?_
                          refine st (h := (sdX (z := 1))) ?_
                          refine st (h := (by first | exact sdLG | exact sdW)) ?_
                          iterate 2 (refine st (h := O) ?_)
                          refine gD (fun g71 => ?_) (fun g71 => ?_)
                          · refine sp ?_
                            iterate 5 (refine sp ?_)
                            iterate 2 (refine st (h := O) ?_)
                            iterate 7 (refine sp ?_)
                            refine st (h := O) ?_
                            refine nl ?_
                            refine cT ?_
                            refine sq ?_
                            refine rg ?_
                            refine st (h := O) ?_
                            refine nl ?_
                            exact rt ⟨congrArg Value.bool (m.ngoodk hkl (by unfold Met.ok; omega)), rfl⟩
                          · refine sg (h := sdFA) ?_
                            refine sg (h := sdL) ?_
                            refine sg (h := O) ?_
                            refine sg (h := (sdX (z := 1))) ?_
                            refine sg (h := (by first | exact sdLG | exact sdW)) ?_
                            refine sg (h := O) ?_
                            iterate 2 (refine st (h := O) ?_)
                            refine gD (fun g79 => ?_) (fun g79 => ?_)
                            · refine sp ?_
                              iterate 6 (refine sp ?_)
                              refine st (h := O) ?_
                              refine nl ?_
                              refine cT ?_
                              refine sq ?_
                              refine rg ?_
                              refine st (h := O) ?_
                              refine nl ?_
                              exact rt ⟨congrArg Value.bool (m.ngoodk hkl (by unfold Met.ok; omega)), rfl⟩
                            · refine sg (h := sdFA) ?_
                              refine sg (h := sdL) ?_
                              refine sg (h := O) ?_
                              refine sg (h := (sdX (z := 1))) ?_
                              refine sg (h := (by first | exact sdLG | exact sdW)) ?_
                              refine clg (h := by exact fun ι hV hl => rShort_C _ _) ?_
                              refine sg (h := O) ?_
                              refine st (h := O) ?_
                              refine nl ?_
                              refine cB (fun c4 => ?_) (fun c4 => ?_)
                              · refine sq ?_
                                refine rg ?_
                                refine st (h := O) ?_
                                refine nl ?_
                                exact rt ⟨congrArg Value.bool (m.ngoodk hkl (by unfold Met.ok sm; simp at c4; omega)), rfl⟩
                              · have ho : m.ok k := by unfold Met.ok sm; simp at c4; omega
                                refine sk ?_
                                refine bk ?_
                                refine rg ?_
                                refine st (h := O) ?_
                                refine st (h := sdA) ?_
                                refine st (h := O) ?_
                                refine nl ?_
                                refine bk1 (k + 1) (by exact ⟨rfl, trivial⟩) (by exact ⟨rfl, rfl, trivial⟩) (by exact ⟨rfl, rfl, trivial⟩) ?_ ?_
                                · omega
                                · exact ⟨by omega, (m.gk_s k).2 ⟨hq1, ho⟩⟩
                        · obtain rfl : k = m.adv.length := by omega
                          refine ex ?_
                          refine sq ?_
                          refine rg ?_
                          refine st (h := O) ?_
                          refine nl ?_
                          first
                            | exact rt ⟨congrArg Value.bool (decide_eq_true (show m.good from hq1)).symm, rfl⟩
                            | (refine rt ⟨congrArg Value.bool (m.ngood ?_), rfl⟩
                               (try simp only [Bool.not_eq_true', Bool.not_eq_false', decide_eq_true_eq, decide_eq_false_iff_not] at *)
                               unfold Met.pre sm
                               omega)

def Met.units (m : Met) (u size : Int) : Int × Bool := if m.up < 16 ∨ size < 1 ∨ ¬ (-1099511627776 ≤ size ∧ size ≤ 1099511627776) then (0, false) else scaleS u size m.up
def Met.width (m : Met) (g size : Int) : Int × Bool := if g < 0 ∨ g ≥ m.adv.length then (0, false) else m.units (ints m.adv g.toNat) size
theorem mUnits_C (F : Mem) (m : Met) (ga ha : Option Addr) (gc hc : Nat) (u size : Int) (hga : PlA ga) (hha : PlA ha) (hu : i64ok u) (hs : i64ok size) (hup : i64ok m.up) : C0 Try.prog 20 [m.v ga gc ha hc, .int .i64 u, .int .i64 size] F (.tuple #[.int .i64 (m.units u size).1, .bool (m.units u size).2]) := by
  unfold Met.v
  refine C.go hT Try.func20 Try.ntmps20 ?_
  refine sq ?_
  refine rg ?_
  refine bx (hL := by simp [ntL, ntV, nt2, argL, nt1_i, nt1_b, hga.nt, hha.nt]) ?_
  iterate 2 (refine st (h := O) ?_)
  refine nl ?_
  iterate 2 (refine sq ?_)
  refine rg ?_
  refine st (h := sdFA) ?_
  refine st (h := sdL) ?_
  iterate 2 (refine st (h := O) ?_)
  refine gD (fun g11 => ?_) (fun g11 => ?_)
  · refine sp ?_
    refine sp ?_
    iterate 2 (refine st (h := O) ?_)
    iterate 3 (refine sp ?_)
    refine st (h := O) ?_
    refine nl ?_
    refine cT ?_
    refine sq ?_
    refine rg ?_
    iterate 2 (refine st (h := O) ?_)
    refine nl ?_
    exact rt ⟨by rw [Met.units, if_pos (.inl g11)], rfl⟩
  · refine sg (h := O) ?_
    refine sg (h := O) ?_
    iterate 2 (refine st (h := O) ?_)
    refine gD (fun g15 => ?_) (fun g15 => ?_)
    · refine sp ?_
      iterate 2 (refine sp ?_)
      refine st (h := O) ?_
      refine nl ?_
      refine cT ?_
      refine sq ?_
      refine rg ?_
      iterate 2 (refine st (h := O) ?_)
      refine nl ?_
      exact rt ⟨by rw [Met.units, if_pos (.inr (.inl g15))], rfl⟩
    · refine sg (h := O) ?_
      refine clg (h := by exact fun ι hV hl => fIn_C _ _) ?_
      refine sg (h := O) ?_
      refine st (h := O) ?_
      refine nl ?_
      refine cB (fun c0 => ?_) (fun c0 => ?_)
      · refine sq ?_
        refine rg ?_
        iterate 2 (refine st (h := O) ?_)
        refine nl ?_
        have h : ¬ (-1099511627776 ≤ size ∧ size ≤ 1099511627776) := by simp at c0; omega
        exact rt ⟨by rw [Met.units, if_pos (.inr (.inr h))], rfl⟩
      · have h : (-1099511627776 ≤ size ∧ size ≤ 1099511627776) := by simpa using c0
        refine sk ?_
        refine sq ?_
        refine rg ?_
        iterate 2 (refine st (h := O) ?_)
        refine st (h := sdFA) ?_
        refine st (h := sdL) ?_
        refine cl (h := by exact fun ι hV hl => Scale_C _ _ _ _ hu hs hup) ?_
        iterate 4 (refine st (h := O) ?_)
        refine nl ?_
        exact rt ⟨by rw [Met.units, if_neg (by rintro (h1 | h1 | h1); exact g11 h1; exact g15 h1; exact h1 h)], rfl⟩
theorem mWidth_C (F : Mem) (m : Met) (ga ha : Option Addr) (gc hc : Nat) (g size : Int) (hga : RIx F ga m.adv) (hha : PlA ha) (hu : ∀ x ∈ m.adv, i64ok x) (hs : i64ok size) (hup : i64ok m.up) : C0 Try.prog 22 [m.v ga gc ha hc, .int .i64 g, .int .i64 size] F (.tuple #[.int .i64 (m.width g size).1, .bool (m.width g size).2]) := by
  unfold Met.v
  refine C.go hT Try.func22 Try.ntmps22 ?_
  refine sq ?_
  refine rg ?_
  refine bx (hL := by simp [ntL, ntV, nt2, argL, nt1_i, nt1_b, hga.pl.nt, hha.nt]) ?_
  iterate 2 (refine st (h := O) ?_)
  refine nl ?_
  iterate 2 (refine sq ?_)
  refine rg ?_
  iterate 3 (refine st (h := O) ?_)
  refine gD (fun g10 => ?_) (fun g10 => ?_)
  · refine sp ?_
    iterate 4 (refine sp ?_)
    refine st (h := O) ?_
    refine nl ?_
    refine cT ?_
    refine sq ?_
    refine rg ?_
    iterate 2 (refine st (h := O) ?_)
    refine nl ?_
    exact rt ⟨by rw [Met.width, if_pos (.inl g10)], rfl⟩
  · refine sg (h := O) ?_
    refine sg (h := sdFA) ?_
    refine sg (h := sdL) ?_
    iterate 2 (refine sg (h := O) ?_)
    refine st (h := O) ?_
    refine nl ?_
    refine cD (fun c0 => ?_) (fun c0 => ?_)
    · refine sq ?_
      refine rg ?_
      iterate 2 (refine st (h := O) ?_)
      refine nl ?_
      exact rt ⟨by rw [Met.width, if_pos (.inr c0)], rfl⟩
    · have hkl : g.toNat < m.adv.length := by omega
      obtain ⟨ab, ao, rfl, har⟩ := hga.rd (by omega)
      have q1 : look F ⟨ab, ao + g.toNat * 1, none⟩ = some (.int .i64 (ints m.adv g.toNat)) := by rw [Nat.mul_one]; exact har _ _ (ints_get hkl)
      refine sk ?_
      refine sq ?_
      refine dr (tgk := by simp [tgK, cellsL, tg1_i, tg1_b, hga.pl.tg, hha.tg]) 12 [3] [0, 1, 2, 3, 4, 5, 6, 1007, 8, 9, 10, 11] ?_
      refine dt (hv := by exact sdLN) ?_
      refine dt (hv := by exact sdFA) ?_
      refine dt (hv := by exact sdL) ?_
      refine dt (hv := by exact O) ?_
      refine dt (hv := by exact (sdX (z := 1))) ?_
      refine dt (hv := by exact (by first | exact sdLG | exact sdW)) ?_
      refine dt (hv := by exact O) ?_
      refine dcl (hkp := by first | exact Kept.all | exact Kept.k0 | exact Kept.kY | exact Kept.kYY | exact Kept.kY3) (h := by exact fun ι hV hl => (mUnits_C _ m _ ha gc hc _ _ hga.pl hha (hu _ (List.mem_of_getElem? (ints_get hkl))) hs hup).ofR (arg3 (Met.rV m hga.pl hha gc hc ι) rfl rfl)) ?_
      iterate 4 (refine dt (hv := by exact O) ?_)
      refine dn ?_
      exact rt ⟨by rw [Met.width, if_neg (by omega)], rfl⟩
theorem rUnits_C (F : Mem) (m : Met) (ga ha : Option Addr) (gc hc : Nat) (u size : Int) (hga : PlA ga) (hha : PlA ha) (hu : i64ok u) (hs : i64ok size) (hup : i64ok m.up) : C0 Try.prog 21 [m.v ga gc ha hc, .int .i64 u, .int .i64 size] F (.tuple #[.int .i64 (m.units u size).1, .bool (m.units u size).2]) := by
  unfold Met.v
  refine C.go hT Try.func21 Try.ntmps21 ?_
  refine sq ?_
  refine rg ?_
  refine bx (hL := by simp [ntL, ntV, nt2, argL, nt1_i, nt1_b, hga.nt, hha.nt]) ?_
  iterate 2 (refine st (h := O) ?_)
  refine nl ?_
  iterate 2 (refine sq ?_)
  refine rg ?_
  refine st (h := sdFA) ?_
  refine st (h := sdL) ?_
  iterate 2 (refine st (h := O) ?_)
  refine gD (fun g11 => ?_) (fun g11 => ?_)
  · refine sp ?_
    refine sp ?_
    iterate 2 (refine st (h := O) ?_)
    iterate 3 (refine sp ?_)
    refine st (h := O) ?_
    refine nl ?_
    refine cT ?_
    refine sq ?_
    refine rg ?_
    iterate 2 (refine st (h := O) ?_)
    refine nl ?_
    exact rt ⟨by rw [Met.units, if_pos (.inl g11)], rfl⟩
  · refine sg (h := O) ?_
    refine sg (h := O) ?_
    iterate 2 (refine st (h := O) ?_)
    refine gD (fun g15 => ?_) (fun g15 => ?_)
    · refine sp ?_
      iterate 2 (refine sp ?_)
      refine st (h := O) ?_
      refine nl ?_
      refine cT ?_
      refine sq ?_
      refine rg ?_
      iterate 2 (refine st (h := O) ?_)
      refine nl ?_
      exact rt ⟨by rw [Met.units, if_pos (.inr (.inl g15))], rfl⟩
    · refine sg (h := O) ?_
      refine clg (h := by exact fun ι hV hl => r01In_C _ _) ?_
      refine sg (h := O) ?_
      refine st (h := O) ?_
      refine nl ?_
      refine cB (fun c0 => ?_) (fun c0 => ?_)
      · refine sq ?_
        refine rg ?_
        iterate 2 (refine st (h := O) ?_)
        refine nl ?_
        have h : ¬ (-1099511627776 ≤ size ∧ size ≤ 1099511627776) := by simp at c0; omega
        exact rt ⟨by rw [Met.units, if_pos (.inr (.inr h))], rfl⟩
      · have h : (-1099511627776 ≤ size ∧ size ≤ 1099511627776) := by simpa using c0
        refine sk ?_
        refine sq ?_
        refine rg ?_
        iterate 2 (refine st (h := O) ?_)
        refine st (h := sdFA) ?_
        refine st (h := sdL) ?_
        refine cl (h := by exact fun ι hV hl => r01Scale_C _ _ _ _ hu hs hup) ?_
        iterate 4 (refine st (h := O) ?_)
        refine nl ?_
        exact rt ⟨by rw [Met.units, if_neg (by rintro (h1 | h1 | h1); exact g11 h1; exact g15 h1; exact h1 h)], rfl⟩
theorem rWidth_C (F : Mem) (m : Met) (ga ha : Option Addr) (gc hc : Nat) (g size : Int) (hga : RIx F ga m.adv) (hha : PlA ha) (hu : ∀ x ∈ m.adv, i64ok x) (hs : i64ok size) (hup : i64ok m.up) : C0 Try.prog 23 [m.v ga gc ha hc, .int .i64 g, .int .i64 size] F (.tuple #[.int .i64 (m.width g size).1, .bool (m.width g size).2]) := by
  unfold Met.v
  refine C.go hT Try.func23 Try.ntmps23 ?_
  refine sq ?_
  refine rg ?_
  refine bx (hL := by simp [ntL, ntV, nt2, argL, nt1_i, nt1_b, hga.pl.nt, hha.nt]) ?_
  iterate 2 (refine st (h := O) ?_)
  refine nl ?_
  iterate 2 (refine sq ?_)
  refine rg ?_
  iterate 3 (refine st (h := O) ?_)
  refine gD (fun g10 => ?_) (fun g10 => ?_)
  · refine sp ?_
    iterate 4 (refine sp ?_)
    refine st (h := O) ?_
    refine nl ?_
    refine cT ?_
    refine sq ?_
    refine rg ?_
    iterate 2 (refine st (h := O) ?_)
    refine nl ?_
    exact rt ⟨by rw [Met.width, if_pos (.inl g10)], rfl⟩
  · refine sg (h := O) ?_
    refine sg (h := sdFA) ?_
    refine sg (h := sdL) ?_
    iterate 2 (refine sg (h := O) ?_)
    refine st (h := O) ?_
    refine nl ?_
    refine cD (fun c0 => ?_) (fun c0 => ?_)
    · refine sq ?_
      refine rg ?_
      iterate 2 (refine st (h := O) ?_)
      refine nl ?_
      exact rt ⟨by rw [Met.width, if_pos (.inr c0)], rfl⟩
    · have hkl : g.toNat < m.adv.length := by omega
      obtain ⟨ab, ao, rfl, har⟩ := hga.rd (by omega)
      have q1 : look F ⟨ab, ao + g.toNat * 1, none⟩ = some (.int .i64 (ints m.adv g.toNat)) := by rw [Nat.mul_one]; exact har _ _ (ints_get hkl)
      refine sk ?_
      refine sq ?_
      refine dr (tgk := by simp [tgK, cellsL, tg1_i, tg1_b, hga.pl.tg, hha.tg]) 12 [3] [0, 1, 2, 3, 4, 5, 6, 1007, 8, 9, 10, 11] ?_
      refine dt (hv := by exact sdLN) ?_
      refine dt (hv := by exact sdFA) ?_
      refine dt (hv := by exact sdL) ?_
      refine dt (hv := by exact O) ?_
      refine dt (hv := by exact (sdX (z := 1))) ?_
      refine dt (hv := by exact (by first | exact sdLG | exact sdW)) ?_
      refine dt (hv := by exact O) ?_
      refine dcl (hkp := by first | exact Kept.all | exact Kept.k0 | exact Kept.kY | exact Kept.kYY | exact Kept.kY3) (h := by exact fun ι hV hl => (rUnits_C _ m _ ha gc hc _ _ hga.pl hha (hu _ (List.mem_of_getElem? (ints_get hkl))) hs hup).ofR (arg3 (Met.rV m hga.pl hha gc hc ι) rfl rfl)) ?_
      iterate 4 (refine dt (hv := by exact O) ?_)
      refine dn ?_
      exact rt ⟨by rw [Met.width, if_neg (by omega)], rfl⟩
theorem mLarge_C (F : Mem) (m : Met) (ga ha : Option Addr) (gc hc : Nat) (hga : PlA ga) (hha : PlA ha) : C0 Try.prog 14 [m.v ga gc ha hc] F (.bool (decide (m.adv.length > 5000 ∨ m.bear.length > 5000))) := by
  unfold Met.v
  refine C.go hT Try.func14 Try.ntmps14 ?_
  refine sq ?_
  refine rg ?_
  refine bx (hL := by simp [ntL, ntV, nt2, argL, nt1_i, nt1_b, hga.nt, hha.nt]) ?_
  refine st (h := O) ?_
  refine nl ?_
  refine sq ?_
  refine rg ?_
  refine st (h := sdFA) ?_
  refine st (h := sdL) ?_
  iterate 3 (refine st (h := O) ?_)
  refine gD (fun g7 => ?_) (fun g7 => ?_)
  · refine sp ?_
    iterate 3 (refine sp ?_)
    iterate 2 (refine st (h := O) ?_)
    refine nl ?_
    refine rt ⟨?_, rfl⟩
    simp only [Value.bool.injEq, eq_comm (a := true), decide_eq_true_eq, decide_eq_false_iff_not, decide_eq_decide]; omega
  · refine sg (h := sdFA) ?_
    refine sg (h := sdL) ?_
    iterate 2 (refine sg (h := O) ?_)
    iterate 2 (refine st (h := O) ?_)
    refine nl ?_
    refine rt ⟨?_, rfl⟩
    simp only [Value.bool.injEq, eq_comm (a := true), decide_eq_true_eq, decide_eq_false_iff_not, decide_eq_decide]; omega
/-- the greatest of the first ones -/
def mx (xs : List Int) : Nat → Int
  | 0 => ints xs 0
  | k + 1 => max (mx xs k) (ints xs (k + 1))
theorem max_C (F : Mem) (a : Option Addr) (c : Nat) (xs : List Int) (ha : RIx F a xs) (h1 : 0 < xs.length) : C0 Try.prog 32 [.slice a xs.length c] F (.int .i64 (mx xs (xs.length - 1))) := by
  have h63 := ha.h63
  obtain ⟨b, off, rfl, hr⟩ := ha.rd h1
  have q0 : look F ⟨b, off + (0 : Int).toNat * 1, none⟩ = some (.int .i64 (ints xs 0)) := hr 0 _ (ints_get h1)
  refine C.go hT Try.func32 Try.ntmps32 ?_
  refine sq ?_
  refine rg ?_
  refine st (h := O) ?_
  refine nl ?_
  iterate 2 (refine sq ?_)
  refine rg ?_
  iterate 3 (refine st (h := O) ?_)
  refine nl ?_
  refine cD (fun c0 => ?_) (fun c0 => ?_)
  · omega
  · refine sk ?_
    refine sq ?_
    refine rg ?_
    refine st (h := O) ?_
    refine st (h := (sdX (z := 1))) ?_
    refine st (h := (by first | exact sdLG | exact sdW)) ?_
    refine st (h := O) ?_
    refine nl ?_
    iterate 2 (refine sq ?_)
    refine rg ?_
    refine st (h := O) ?_
    refine nl ?_
    refine bl ?_
    refine J.loop2 (α := Nat) (β := Int) (fun k m => 1 ≤ k ∧ k ≤ xs.length ∧ m = mx xs (k - 1)) (fun k m => [(3, .int .i64 m), (4, .int .i64 k)]) [(0, _)] (fun k m => []) [] (fun k m => xs.length - k) (1) (_) (by exact ⟨rfl, rfl, trivial⟩) (by exact ⟨rfl, trivial⟩) (by exact trivial) ?_ ?_
    · exact ⟨Nat.le_refl _, h1, rfl⟩
    · intro k m L1 K1 e1 e2 hI
      dsimp only [apV, apR, List.cons_append, List.nil_append] at e1 e2
      subst e1 e2
      obtain ⟨hk1, hk, hm⟩ := hI
      iterate 2 (refine sq ?_)
      refine rg ?_
      iterate 4 (refine st (h := O) ?_)
      refine nl ?_
      refine cD (fun c1 => ?_) (fun c1 => ?_)
      · have hkl : k < xs.length := by omega
        have q1 : look F ⟨b, off + (k : Int).toNat * 1, none⟩ = some (.int .i64 (ints xs k)) := by rw [Nat.mul_one]; exact hr k _ (ints_get hkl)
        have e : mx xs k = max (mx xs (k - 1)) (ints xs k) := by
          obtain ⟨j, rfl⟩ : ∃ j, k = j + 1 := ⟨k - 1, by omega⟩
          rfl
        refine sk ?_
        refine sq ?_
        refine bl ?_
        refine rg ?_
        iterate 3 (refine st (h := O) ?_)
        refine st (h := (sdX (z := 1))) ?_
        refine st (h := (by first | exact sdLG | exact sdW)) ?_
        iterate 2 (refine st (h := O) ?_)
        refine nl ?_
        refine bk ?_
        refine rg ?_
        refine st (h := O) ?_
        refine st (h := sdA) ?_
        refine st (h := O) ?_
        refine nl ?_
        refine bk2 (k + 1) (_) (by exact ⟨rfl, rfl, trivial⟩) (by exact ⟨rfl, trivial⟩) (by exact trivial) ?_ ?_
        · omega
        · exact ⟨by omega, by omega, by rw [hm, Nat.add_sub_cancel]; exact e.symm⟩
      · obtain rfl : k = xs.length := by omega
        refine ex ?_
        refine sq ?_
        refine rg ?_
        iterate 2 (refine st (h := O) ?_)
        refine nl ?_
        exact rt ⟨congrArg _ hm, rfl⟩
/-- how long tables are, so far as is asked -/
def lnT (x : Tb) : Int := 1 + x.2.size + x.1.size
def lng : List Tb → Int → Int
  | [], n => n
  | x :: l, n => if n ≤ 40000 then lng l (n + (1 + x.2.size + x.1.size)) else n
theorem lng_stop {n : Int} (h : ¬ n ≤ 40000) : ∀ l, lng l n = n
  | [] => rfl
  | x :: l => by rw [lng, if_neg h]
theorem long_C (F : Mem) (v : Value) (l : List Tb) (hv : kTb.S F v l) (hs : ∀ x ∈ l, x.1.size ≤ 140737488355328 ∧ x.2.size ≤ 140737488355328) : C0 Try.prog 8 [v] F (.bool (decide (lng l 0 > 40000))) := by
  rcases kTb_forms hv with ⟨b, off, c, rfl, hl, hr⟩ | ⟨rfl, rfl⟩
  ·
    refine C.go hT Try.func8 Try.ntmps8 ?_
    refine sq ?_
    refine rg ?_
    refine st (h := O) ?_
    refine nl ?_
    refine sq ?_
    refine rg ?_
    refine st (h := O) ?_
    refine nl ?_
    iterate 2 (refine sq ?_)
    refine rg ?_
    refine st (h := O) ?_
    refine nl ?_
    refine bl ?_
    refine J.loop2 (α := Nat) (β := Int) (fun k n => k ≤ l.length ∧ 0 ≤ n ∧ n ≤ 281474976800000 ∧ lng (l.drop k) n = lng l 0) (fun k n => [(3, .int .i64 n), (4, .int .i64 k)]) [(0, _)] (fun k n => []) [] (fun k n => l.length - k) (0) (0) (by exact ⟨rfl, rfl, trivial⟩) (by exact ⟨rfl, trivial⟩) (by exact trivial) ?_ ?_
    · exact ⟨Nat.zero_le _, by omega, by omega, rfl⟩
    · intro k n L1 K1 e1 e2 hI
      dsimp only [apV, apR, List.cons_append, List.nil_append] at e1 e2
      subst e1 e2
      obtain ⟨hk, hn0, hn1, hb⟩ := hI
      iterate 2 (refine sq ?_)
      refine rg ?_
      iterate 5 (refine st (h := O) ?_)
      refine gD (fun g9 => ?_) (fun g9 => ?_)
      · refine sg (h := O) ?_
        refine sg (h := O) ?_
        refine st (h := O) ?_
        refine nl ?_
        refine cD (fun c0 => ?_) (fun c0 => ?_)
        · have hkl : k < l.length := by omega
          obtain ⟨q0, q1, q2⟩ := hr k hkl
          obtain ⟨s1, s2⟩ := hs _ (List.getElem_mem hkl)
          rw [show off + k * 2 = off + (k : Int).toNat * 2 + 0 from rfl] at q1
          rw [show off + k * 2 = off + (k : Int).toNat * 2 from rfl] at q2
          rw [List.drop_eq_getElem_cons hkl, lng, if_pos (by omega)] at hb
          generalize l[k] = x at *
          refine sk ?_
          refine sq ?_
          refine bl ?_
          refine dr 17 [] [0, 1, 2, 3, 4, 5, 6, 7, 8, 9, 10, 11, 12, 13, 14, 15, 16] ?_
          iterate 3 (refine dt (hv := by exact O) ?_)
          refine dt (hv := by exact (sdX (z := 2))) ?_
          refine dt (hv := by exact sdFA) ?_
          refine dt (hv := by exact sdL) ?_
          refine dt (hv := by exact O) ?_
          refine dt (hv := by exact sdA) ?_
          iterate 2 (refine dt (hv := by exact O) ?_)
          refine dt (hv := by exact (sdX (z := 2))) ?_
          refine dt (hv := by exact sdFA) ?_
          refine dt (hv := by exact sdL) ?_
          refine dt (hv := by exact O) ?_
          iterate 2 (refine dt (hv := by exact sdA) ?_)
          refine dt (hv := by exact O) ?_
          refine dn ?_
          refine bk ?_
          refine rg ?_
          refine st (h := O) ?_
          refine st (h := sdA) ?_
          refine st (h := O) ?_
          refine nl ?_
          refine bk2 (k + 1) (n + (1 + x.2.size + x.1.size)) (by exact ⟨rfl, rfl, trivial⟩) (by exact ⟨rfl, trivial⟩) (by exact trivial) ?_ ?_
          · omega
          · exact ⟨by omega, by omega, by omega, hb⟩
        · refine ex ?_
          refine sq ?_
          refine rg ?_
          iterate 3 (refine st (h := O) ?_)
          refine nl ?_
          refine rt ⟨congrArg Value.bool ?_, rfl⟩
          rw [decide_eq_decide, ← hb, lng_stop (n := n) c0]
      · refine sp ?_
        refine sp ?_
        refine st (h := O) ?_
        refine nl ?_
        refine cF ?_
        refine ex ?_
        refine sq ?_
        refine rg ?_
        iterate 3 (refine st (h := O) ?_)
        refine nl ?_
        refine rt ⟨congrArg Value.bool ?_, rfl⟩
        obtain rfl : k = l.length := by omega
        rw [decide_eq_decide, ← hb, List.drop_length]; rfl
  ·
    refine C.go hT Try.func8 Try.ntmps8 ?_
    refine sq ?_
    refine rg ?_
    refine st (h := O) ?_
    refine nl ?_
    refine sq ?_
    refine rg ?_
    refine st (h := O) ?_
    refine nl ?_
    iterate 2 (refine sq ?_)
    refine rg ?_
    refine st (h := O) ?_
    refine nl ?_
    refine bl ?_
    refine J.loop1 (α := Nat) (fun k => k = 0) (fun k => [(3, .int .i64 0), (4, .int .i64 k)]) [(0, _)] (fun k => []) [] (fun k => 0) (0) (by exact ⟨rfl, rfl, trivial⟩) (by exact ⟨rfl, trivial⟩) (by exact trivial) ?_ ?_
    · rfl
    · intro k L1 K1 e1 e2 hI
      dsimp only [apV, apR, List.cons_append, List.nil_append] at e1 e2
      subst e1 e2
      subst hI
      iterate 2 (refine sq ?_)
      refine rg ?_
      iterate 5 (refine st (h := O) ?_)
      refine gD (fun g9 => ?_) (fun g9 => ?_)
      · exact absurd g9 (by decide)
      · refine sp ?_
        refine sp ?_
        refine st (h := O) ?_
        refine nl ?_
        refine cF ?_
        refine ex ?_
        refine sq ?_
        refine rg ?_
        iterate 3 (refine st (h := O) ?_)
        refine nl ?_
        exact rt ⟨rfl, rfl⟩

end Go.Proofs.Ytfcckfiipbdnkaa.Am
namespace Go.Proofs.Ytfcckfiipbdnkaa.Am
set_option linter.unusedSimpArgs false
set_option linter.unusedVariables false
set_option maxRecDepth 100000
set_option maxHeartbeats 4000000
open Go Go.RowKit
theorem Met.pl (m : Met) {ga ha : Option Addr} (hga : PlA ga) (hha : PlA ha) (gc hc : Nat) : ∀ v ∈ cellsL (m.v ga gc ha hc), plain1 v = true := by
  intro v hv
  simp only [cellsL, Met.v, List.mem_cons, List.not_mem_nil, or_false] at hv
  rcases hv with rfl | rfl | rfl | rfl | rfl | rfl | rfl | rfl | rfl | rfl | rfl <;> first | rfl | exact hga.pl _ _ | exact hha.pl _ _
theorem Rd.ix {G : Mem} {Y : List (Nat × Row)} (h : Rd G Y) {b : Nat} {ι : Nat → Nat} {r : Row} {xs : List Int} (hm : (b, r.r ι) ∈ Y) (hcs : r.cs = Am.ivs xs) (hl : xs.length ≤ 9223372036854775807) : RIx G (some ⟨b, 0, none⟩) xs := by
  refine ⟨.inr (.inl ⟨_, _, rfl⟩), hl, fun _ => ⟨_, _, rfl, fun i x hx => ?_⟩⟩
  rcases Rd.ivs (c := 0) h hm hcs hl with ⟨b', off, c, e, _, h3⟩ | ⟨e, _⟩
  · simp only [Value.slice.injEq, Option.some.injEq, Addr.mk.injEq] at e
    obtain ⟨⟨rfl, rfl, _⟩, _⟩ := e
    exact h3 i x hx
  · simp at e
theorem mCopy_C (F : Mem) (m : Met) (ga ha : Option Addr) (gc hc : Nat) (hga : RIx F ga m.adv) (hha : RIx F ha m.bear) (h1 : m.adv.length ≤ 100000) (h2 : m.bear.length ≤ 100000) : C Try.prog 15 [m.v ga gc ha hc] F (fun u Y => ∃ b b' c c', u = m.v (some ⟨b, 0, none⟩) c (some ⟨b', 0, none⟩) c' ∧ ∀ G, Rd G Y → RIx G (some ⟨b, 0, none⟩) m.adv ∧ RIx G (some ⟨b', 0, none⟩) m.bear) := by
  unfold Met.v
  refine C.go hT Try.func15 Try.ntmps15 ?_
  refine sq ?_
  refine rg ?_
  refine bx (hL := by simp [ntL, ntV, nt2, argL, nt1_i, nt1_b, hga.pl.nt, hha.pl.nt]) ?_
  refine JL.flat (m.pl hga.pl hha.pl gc hc) ?_
  refine al (hL := by simp [ntL, ntV, nt2, argL, nt1_i, nt1_b, nt1_p, hga.pl.nt, hha.pl.nt]) ?_
  refine nl ?_
  refine sq ?_
  refine J.weak (L0 := [(1, _), (2, _)]) (K0 := [(2, _), (1, _)]) (by exact ⟨rfl, rfl, trivial⟩) (by exact ⟨rfl, rfl, rfl, rfl, trivial⟩) ?_
  refine rg ?_
  refine sl ?_
  refine st (h := sdFA) ?_
  refine st (h := sdL) ?_
  refine apIx0 1006 3 [(1, _), (2, _)] [(2, _), (1, _)] (hga.app gc) ?_ (hL := by simp [ntL, ntV, nt2, nt1_p, nt1_o, hga.pl.nt])
  intro cap1 hc1 hd1
  refine st (h := sdFA) ?_
  refine so ?_
  refine nl ?_
  refine sq ?_
  refine J.weak (L0 := [(1, _), (2, _)]) (K0 := [(3, _), (2, _), (1, _)]) (by exact ⟨rfl, rfl, trivial⟩) (by exact ⟨rfl, rfl, rfl, rfl, rfl, rfl, trivial⟩) ?_
  refine rg ?_
  refine sl (hK := by simp [ntK, setK, cellsL, zer, putL, nt1_i, nt1_b, nt1_n, nt1_o, hha.pl.nt]) ?_
  refine st (h := sdFA) ?_
  refine st (h := sdL) ?_
  refine apIx0 1011 8 [(1, _), (2, _)] [(3, _), (2, _), (1, _)] (hha.app hc) ?_ (hL := by simp [ntL, ntV, nt2, nt1_p, nt1_o, hha.pl.nt]) (hK := by simp [ntK, setK, cellsL, zer, putL, nt1_i, nt1_b, nt1_n, nt1_o, hha.pl.nt]) (hKu := by simp [ntK, setK, cellsL, zer, putL, nt1_i, nt1_b, nt1_n, nt1_o, hha.pl.nt]) (hKt := by simp [ntK, setK, cellsL, zer, putL, nt1_i, nt1_b, nt1_n, nt1_o, hha.pl.nt])
  intro cap2 hc2 hd2
  refine st (h := sdFA) ?_
  refine so ?_
  refine nl ?_
  refine sq ?_
  refine J.weak (L0 := [(1, _), (2, _)]) (K0 := [(8, _), (3, _), (2, _), (1, _)]) (by exact ⟨rfl, rfl, trivial⟩) (by exact ⟨rfl, rfl, rfl, rfl, rfl, rfl, rfl, rfl, trivial⟩) ?_
  refine rg ?_
  refine st (h := sdLN) ?_
  refine so ?_
  refine nl ?_
  refine rtX fun ι hV => ⟨ι 3, ι 8, cap1, cap2, rfl, fun G hG => ⟨?_, ?_⟩⟩
  · exact hG.ix (List.mem_map.2 ⟨_, List.mem_cons_of_mem _ List.mem_cons_self, rfl⟩) rfl hga.h63
  · exact hG.ix (List.mem_map.2 ⟨_, List.mem_cons_self, rfl⟩) rfl hha.h63

end Go.Proofs.Ytfcckfiipbdnkaa.Am
namespace Go.Proofs.Ytfcckfiipbdnkaa.Am
set_option linter.unusedSimpArgs false
set_option linter.unusedVariables false
open Go Go.RowKit
/-! Lists that are appended to behind a field; appending where an order is drawn. -/
section
variable {X : Cx} {F F0 : Mem} {L : Slots} {K K0 : Own} {s : List SI} {ops : Array Oper} {l : List Oper} {b : Nat} {D : List Nat} {p : List (Nat × Bool)} {listed : Array Bool}
/-- a literal slice -/
theorem dsl {i : Nat} {o : Oper} {Θ : Tab} {ty el : TypeId} {parts : Array (Nat × Operand)} {d n : Nat} {ti tj : Ty} {ps : List (Nat × List Value)} {cs : List Value} (hk : JD X l b F0 K0 D p (listed.setIfInBounds i true) s F ((d, .slice (some ⟨d, 0, some 0⟩) n n) :: L) ((d, { elem := el, cs := cs, room := n * tj.size, flat := false }) :: K))
    (ho' : l[i]? = some o := by rfl) (hg : o.guard = none := by rfl) (ho : o.op = .buildSlice ty n parts := by rfl) (hd : o.dst = some d := by rfl) (hN : d < X.N := by exact Nat.le_of_ble_eq_true rfl) (hθ : tabOk X.P Θ = true := by exact hT) (hi : Θ.lookup ty = some ti := by rfl) (hki : ti.k = .slice el := by rfl) (hj : Θ.lookup el = some tj := by rfl)
    (hp : partsL (evO L) parts.toList = some ps := by rfl) (h1 : ps.all (fun q => q.2.all (·.oneCell')) = true := by rfl) (hf : fillL (fun i => some (i * tj.size, tj.size)) (zer tj n) ps = some cs := by rfl) (hs : n * tj.size ≤ 16777216 := by exact Nat.le_of_ble_eq_true rfl) (hz0 : tj.zero.length = tj.size := by rfl) (hz1 : 0 < tj.size := by exact Nat.le_of_ble_eq_true rfl)
    (hL : ntL d L = true := by rfl) (hK : ntK d K = true := by rfl) (hD : D.contains d = false := by rfl)
    (hkp : Kept b F0 K0 (listed.setIfInBounds i true) F ((d, { elem := el, cs := cs, room := n * tj.size, flat := false }) :: K) := by first | exact Kept.all | exact Kept.k0 | exact Kept.kY | exact Kept.kYY | exact Kept.kY3) (hi9 : i < 5000 := by exact Nat.le_of_ble_eq_true rfl) : JD X l b F0 K0 D ((i, false) :: p) listed s F L K :=
  JD.op hi9 ho' hg (Go1.slit hθ ho hd hN hi hki hj hp h1 hf hs hz0 hz1 hL hK hD ⟨hkp, hk⟩)
/-- append to nothing -/
theorem dapN {i : Nat} {o : Oper} {Θ : Tab} {ty ty' el : TypeId} {sx x : Operand} {d m : Nat} {ti ti' tj : Ty} {xv : Value} {news : List Value} (t : Nat) (fl : Bool)
    (hk : ∀ cap, m ≤ cap → cap ≤ 9223372036854775807 → JD X l b F0 K0 D p (listed.setIfInBounds i true) s F ((d, .slice (some ⟨t, 0, some 0⟩) m cap) :: L) ((t, { elem := el, cs := news, room := cap * tj.size, flat := fl }) :: K))
    (ho' : l[i]? = some o := by rfl) (hg : o.guard = none := by rfl) (ho : o.op = .call ⟨.builtin .append, #[sx, x], #[ty, ty']⟩ := by rfl) (hd : o.dst = some d := by rfl) (hN : d < X.N := by exact Nat.le_of_ble_eq_true rfl) (hθ : tabOk X.P Θ = true := by exact hT)
    (hi : Θ.lookup ty = some ti := by rfl) (hki : ti.k = .slice el := by rfl) (hi' : Θ.lookup ty' = some ti' := by rfl) (hk' : slB ti'.k = true := by rfl) (hj : Θ.lookup el = some tj := by rfl) (hz0 : tj.zero.length = tj.size := by rfl) (hz1 : 0 < tj.size := by exact Nat.le_of_ble_eq_true rfl)
    (hs : evO L sx = some (.slice none 0 0) := by rfl) (hx : evO L x = some xv := by rfl) (happ : App X.P F K tj.size xv m news := by exact App.slice rfl (by simp [Value.oneCell']; done) rfl)
    (hm : 0 < m := by first | exact Nat.le_of_ble_eq_true rfl | omega) (h63 : m ≤ 9223372036854775807 := by first | exact Nat.le_of_ble_eq_true rfl | omega) (hby : m * tj.bytes ≤ 140737488355328 := by first | exact Nat.le_of_ble_eq_true rfl | (dsimp only; omega))
    (hflat : fl = true → news.all plain1 = true := by intro _; rfl) (hL : ntL t L = true := by rfl) (hK : ntK t K = true := by rfl) (hnn : news.all (nt1 t) = true := by rfl) (hD : D.contains t = false := by rfl)
    (hkp : ∀ cap, Kept b F0 K0 (listed.setIfInBounds i true) F ((t, { elem := el, cs := news, room := cap * tj.size, flat := fl }) :: K) := by intro cap; first | exact Kept.all | exact Kept.k0 | exact Kept.kY | exact Kept.kYY | exact Kept.kY3) (hi9 : i < 5000 := by exact Nat.le_of_ble_eq_true rfl) : JD X l b F0 K0 D ((i, false) :: p) listed s F L K := by
  refine JD.op hi9 ho' hg (Go1.append (t := t) (n := 0) (c := 0) (olds := []) (K0 := K) (fz := false) (fl := fl) hθ ho hd hN hi hki hi' hk' hj hz0 hz1 hs hx happ hm (.inl ⟨rfl, rfl, rfl, rfl, rfl⟩) (by simp) hflat (by omega) (by simpa using hby) hL hK hnn hD ?_)
  intro cap h1 h2
  simp only [Nat.zero_add, List.nil_append] at h1 ⊢
  exact ⟨hkp cap, hk cap h1 h2⟩
/-- append to an own row of the tag u: the row has the new tag t behind it -/
theorem dapO {i : Nat} {o : Oper} {Θ : Tab} {ty ty' el : TypeId} {sx x : Operand} {d u m n c : Nat} {ti ti' tj : Ty} {xv : Value} {news : List Value} {r : Row} (t : Nat)
    (hk : ∀ cap, n + m ≤ cap → cap ≤ 9223372036854775807 → JD X l b F0 K0 D p (listed.setIfInBounds i true) s F ((d, .slice (some ⟨t, 0, some 0⟩) (n + m) cap) :: L) ((t, { elem := el, cs := r.cs ++ news, room := cap * tj.size, fz := r.fz, flat := r.flat }) :: delK u K))
    (ho' : l[i]? = some o := by rfl) (hg : o.guard = none := by rfl) (ho : o.op = .call ⟨.builtin .append, #[sx, x], #[ty, ty']⟩ := by rfl) (hd : o.dst = some d := by rfl) (hN : d < X.N := by exact Nat.le_of_ble_eq_true rfl) (hθ : tabOk X.P Θ = true := by exact hT)
    (hi : Θ.lookup ty = some ti := by rfl) (hki : ti.k = .slice el := by rfl) (hi' : Θ.lookup ty' = some ti' := by rfl) (hk' : slB ti'.k = true := by rfl) (hj : Θ.lookup el = some tj := by rfl) (hz0 : tj.zero.length = tj.size := by rfl) (hz1 : 0 < tj.size := by exact Nat.le_of_ble_eq_true rfl)
    (hs : evO L sx = some (.slice (some ⟨u, 0, some 0⟩) n c) := by rfl) (hx : evO L x = some xv := by rfl) (hr : K.lookup u = some r := by rfl) (happ : App X.P F K tj.size xv m news := by exact App.slice rfl (by simp [Value.oneCell']; done) rfl)
    (hroom : r.room = c * tj.size := by rfl) (hel : r.elem = el := by rfl) (hol : r.cs.length = n * tj.size := by first | rfl | (dsimp only; omega) | (simp; done) | (simp; omega)) (hnc : n ≤ c := by omega) (hcm : c ≤ 9223372036854775807 := by omega)
    (hm : 0 < m := by first | exact Nat.le_of_ble_eq_true rfl | omega) (h63 : n + m ≤ 9223372036854775807 := by omega) (hby : (n + m) * tj.bytes ≤ 140737488355328 := by (dsimp only; omega))
    (hflat : r.flat = true → news.all plain1 = true := by intro _; rfl) (hL : ntL t L = true := by rfl) (hK : ntK t K = true := by rfl) (hnn : news.all (nt1 t) = true := by rfl) (hD : D.contains t = false := by rfl)
    (hkp : ∀ cap, Kept b F0 K0 (listed.setIfInBounds i true) F ((t, { elem := el, cs := r.cs ++ news, room := cap * tj.size, fz := r.fz, flat := r.flat }) :: delK u K) := by intro cap; first | exact Kept.all | exact Kept.k0 | exact Kept.kY | exact Kept.kYY | exact Kept.kY3) (hi9 : i < 5000 := by exact Nat.le_of_ble_eq_true rfl) : JD X l b F0 K0 D ((i, false) :: p) listed s F L K := by
  refine JD.op hi9 ho' hg (Go1.append (t := t) (n := n) (c := c) (olds := r.cs) (K0 := delK u K) (fz := r.fz) (fl := r.flat) hθ ho hd hN hi hki hi' hk' hj hz0 hz1 hs hx happ hm (.inr ⟨u, r, rfl, hr, rfl, hroom, hel, hnc, hcm, rfl, id, id⟩) hol hflat h63 hby hL hK hnn hD ?_)
  intro cap h1 h2
  exact ⟨hkp cap, hk cap h1 h2⟩
/-- a row that a cell of another row shows gets another tag -/
theorem JL.retagC {A t u off n c : Nat} {rA r : Row} (Lk : Slots) (Kk : Own) (h : JL X ops l s F Lk (setK A { rA with cs := rA.cs.set off (.slice (some ⟨u, 0, some 0⟩) n c) } ((u, r) :: (A, rA) :: Kk)))
    (hA : K.lookup A = some rA := by rfl) (hr : K.lookup t = some r := by rfl) (hcell : rA.cs[off]? = some (.slice (some ⟨t, 0, some 0⟩) n c) := by rfl) (hfA : rA.flat = false := by rfl) (hAu : (A == u) = false := by rfl)
    (hLk : LSub Lk L := by repeat' first | exact trivial | refine And.intro rfl ?_) (hKk : KSub ((t, r) :: (A, rA) :: Kk) K := by repeat' first | exact trivial | refine And.intro rfl ?_) (hL : ntL u Lk = true := by rfl) (hK : ntK u ((A, rA) :: Kk) = true := by rfl) (hru : (r.flat || r.cs.all (nt1 u)) = true := by rfl) (hD : X.D.contains u = false := by rfl) : JL X ops l s F L K := by
  intro ι a w hF hS
  have hS1 := hS.weak hKk
  have hagree : ∀ v ∈ X.D, upd ι u (ι t) v = ι v := fun v hv => upd_ne ι (fun e => by subst e; simp at hD; exact hD hv)
  have hS2 := hS1.retag hK hru
  have hlk : ((u, r) :: (A, rA) :: Kk).lookup A = some rA := by
    rw [List.lookup_cons, hAu, List.lookup_cons_self]
  have htt : upd ι u (ι t) t = ι t := by
    by_cases e : t = u
    · subst e; exact upd_eq ..
    · exact upd_ne ι e
  have hc : ({ rA with cs := rA.cs.set off (.slice (some ⟨u, 0, some 0⟩) n c) } : Row).c (upd ι u (ι t)) = rA.c (upd ι u (ι t)) := by
    simp only [Row.c]
    congr 1
    rw [List.map_set]
    apply List.ext_getElem?
    intro j
    rw [List.getElem?_set]
    split
    · rename_i e
      subst e
      have hlt := (List.getElem?_eq_some_iff.1 hcell).1
      rw [List.length_map, if_pos hlt, List.getElem?_map, hcell]
      show some (c1 _ (.slice (some ⟨u, 0, some 0⟩) n c)) = some (c1 _ (.slice (some ⟨t, 0, some 0⟩) n c))
      show some (Value.slice (some ⟨upd ι u (ι t) u, 0, none⟩) n c) = some (Value.slice (some ⟨upd ι u (ι t) t, 0, none⟩) n c)
      rw [htt, upd_eq]
    · rfl
  have hh := (hS2.own (A, rA) (by simp)).2.1
  refine JL.tr hagree (h (upd ι u (ι t)) a w ?_ (hS2.set hlk (fun _ _ => rfl) rfl rfl rfl rfl (by rw [hc]; exact hh) (fun hf => by rw [show ({ rA with cs := rA.cs.set off (.slice (some ⟨u, 0, some 0⟩) n c) } : Row).flat = rA.flat from rfl, hfA] at hf; cases hf)))
  exact (hF.weak hLk).nt (κ := upd ι u (ι t)) (t := u) (fun v hv => upd_ne ι hv) hL
end
/-- an array in a struct, one of its cells stored -/
theorem box_get {B : Nat → Int} {n k : Nat} {pre post : List Value} (hk : k < n) : (pre ++ (gI B n ++ post))[pre.length + k]? = some (.int .i64 (B k)) := by
  rw [List.getElem?_append_right (by omega), Nat.add_sub_cancel_left, List.getElem?_append_left (by rw [gI_length]; exact hk), gI_get hk]
theorem box_put {B : Nat → Int} {n k : Nat} {x : Int} {pre post : List Value} (hk : k < n) : putL (pre ++ (gI B n ++ post)) (pre.length + k) [.int .i64 x] = pre ++ (gI (setI B k x) n ++ post) := by
  have e := gI_put B n k x
  simp only [putL] at e ⊢
  rw [← e, List.set_append_right _ _ (by omega), Nat.add_sub_cancel_left, List.set_append_left _ _ (by rw [gI_length]; exact hk)]
section
variable {X : Cx} {F F0 : Mem} {L : Slots} {K K0 : Own} {s : List SI} {ops : Array Oper} {o : Oper} {l : List Oper} {b : Nat} {D : List Nat} {p : List (Nat × Bool)} {listed : Array Bool}
theorem soX {Θ : Tab} {ty : TypeId} {x y : Operand} {t off k n : Nat} {z : Int} {B : Nat → Int} (pre post : List Value) {r : Row} {ti : Ty} (hk : JL X ops l s F L (setK t { r with cs := pre ++ (gI (setI B k z) n ++ post), flat := r.flat && true } K))
    (hg : o.guard = none := by rfl) (ho : o.op = .store ty x y := by rfl) (hd : o.dst = none := by rfl) (hθ : tabOk X.P Θ = true := by exact hT) (hi : Θ.lookup ty = some ti := by rfl)
    (hx : evO L x = some (.pointer (some ⟨t, off, some 0⟩)) := by rfl) (hy : evO L y = some (.int .i64 z) := by rfl) (hr : K.lookup t = some r := by rfl) (hcs : r.cs = pre ++ (gI B n ++ post) := by rfl) (hsz : ti.size = 1 := by rfl) (hkn : k < n := by omega) (hoff : off = pre.length + k := by simp) : JL X ops (o :: l) s F L K := by
  subst hoff
  refine so (v := .int .i64 z) ?_ hg ho hd hθ hi hx hy rfl hr (by rw [hsz]; rfl) (by rw [hcs]; simp [cellsL, gI_length]; omega)
  rw [show cellsL (.int .i64 z) = [.int .i64 z] from rfl, hcs, box_put hkn]
  exact hk
theorem dsoX {i : Nat} {Θ : Tab} {ty : TypeId} {x y : Operand} {t off k n : Nat} {z : Int} {B : Nat → Int} (pre post : List Value) {r : Row} {ti : Ty} (hk : JD X l b F0 K0 D p (listed.setIfInBounds i true) s F L (setK t { r with cs := pre ++ (gI (setI B k z) n ++ post), flat := r.flat && true } K))
    (ho' : l[i]? = some o := by rfl) (hg : o.guard = none := by rfl) (ho : o.op = .store ty x y := by rfl) (hd : o.dst = none := by rfl) (hθ : tabOk X.P Θ = true := by exact hT) (hi : Θ.lookup ty = some ti := by rfl)
    (hx : evO L x = some (.pointer (some ⟨t, off, some 0⟩)) := by rfl) (hy : evO L y = some (.int .i64 z) := by rfl) (hr : K.lookup t = some r := by rfl) (hcs : r.cs = pre ++ (gI B n ++ post) := by rfl) (hsz : ti.size = 1 := by rfl) (hkn : k < n := by omega) (hoff : off = pre.length + k := by simp) (hi9 : i < 5000 := by exact Nat.le_of_ble_eq_true rfl) (hal : (listed.setIfInBounds i true).getD b false = true := by rfl) : JD X l b F0 K0 D ((i, false) :: p) listed s F L K := by
  subst hoff
  refine dso (v := .int .i64 z) ?_ ho' hg ho hd hθ hi hx hy rfl hr (by rw [hsz]; rfl) (by rw [hcs]; simp [cellsL, gI_length]; omega) (hkp := Kept.all hal) (hi9 := hi9)
  rw [show cellsL (.int .i64 z) = [.int .i64 z] from rfl, hcs, box_put hkn]
  exact hk
end
section
variable {X : Cx} {F F0 : Mem} {L : Slots} {K K0 : Own} {s : List SI} {l : List Oper} {b : Nat} {D : List Nat} {p : List (Nat × Bool)} {listed : Array Bool}
/-- a value, read where another effect may come first -/
theorem jv {i d : Nat} {o : Oper} {v : Value} (hk : JD X l b F0 K0 D p (listed.setIfInBounds i true) s F ((d, v) :: L) K)
    (ho : l[i]? = some o := by rfl) (hg : o.guard = none := by rfl) (hd : o.dst = some d := by rfl) (hN : d < X.N := by exact Nat.le_of_ble_eq_true rfl) (hv : SD X.P F K L o.op v)
    (hkp : Kept b F0 K0 (listed.setIfInBounds i true) F K) (hp : planOk l b (listed.setIfInBounds i true) p = true := by kernel_rfl) : JS X l b F0 K0 D p listed s i F L K :=
  JS.op ho hg hp (Go1.val hd hN hv ⟨hkp, hk⟩)
end
end Go.Proofs.Ytfcckfiipbdnkaa.Am
namespace Go.Proofs.Ytfcckfiipbdnkaa.Am
set_option linter.unusedSimpArgs false
set_option linter.unusedVariables false
set_option maxRecDepth 100000
set_option maxHeartbeats 4000000
open Go Go.RowKit
/-- what tables say -/
def sHead : ByteArray := ⟨#[104, 101, 97, 100]⟩
def sHhea : ByteArray := ⟨#[104, 104, 101, 97]⟩
def sMaxp : ByteArray := ⟨#[109, 97, 120, 112]⟩
def sHmtx : ByteArray := ⟨#[104, 109, 116, 120]⟩
def vOne : ByteArray := ⟨#[0, 1, 0, 0]⟩
def vHalf : ByteArray := ⟨#[0, 0, 80, 0]⟩
def vMag : ByteArray := ⟨#[95, 15, 60, 245]⟩
def okMp (mp : ByteArray) : Prop := (mp.extract 0 4 = vHalf ∨ mp.extract 0 4 = vOne) ∧ 1 ≤ two mp 4 ∧ two mp 4 ≤ 4096
instance (mp : ByteArray) : Decidable (okMp mp) := by unfold okMp; infer_instance
def okHd (hd : ByteArray) : Prop := hd.extract 0 4 = vOne ∧ hd.extract 12 16 = vMag ∧ 16 ≤ two hd 18 ∧ two hd 18 ≤ 16384 ∧ two hd 50 ≤ 1 ∧ two hd 52 = 0
instance (hd : ByteArray) : Decidable (okHd hd) := by unfold okHd; infer_instance
def okHh (hh : ByteArray) (n : Int) : Prop := hh.extract 0 4 = vOne ∧ two hh 32 = 0 ∧ 1 ≤ two hh 34 ∧ two hh 34 ≤ n
instance (hh : ByteArray) (n : Int) : Decidable (okHh hh n) := by unfold okHh; infer_instance
def okHm (hm : ByteArray) (n h : Int) : Prop := 4 * h + 2 * (n - h) ≤ hm.size
instance (hm : ByteArray) (n h : Int) : Decidable (okHm hm n h) := by unfold okHm; infer_instance
def advAt (hm : ByteArray) (h : Nat) (i : Nat) : Int := two hm (4 * min i (h - 1))
def bearAt (hm : ByteArray) (h : Nat) (i : Nat) : Int := sg2 (two hm (if i < h then 4 * i + 2 else 4 * h + 2 * (i - h)))
def metOf (mp hd hh hm : ByteArray) : Met where
  up := two hd 18
  asc := sg2 (two hh 4)
  desc := sg2 (two hh 6)
  gap := sg2 (two hh 8)
  box k := sg2 (two hd (36 + 2 * k))
  long := decide (two hd 50 = 1)
  adv := (List.range (two mp 4).toNat).map (advAt hm (two hh 34).toNat)
  bear := (List.range (two mp 4).toNat).map (bearAt hm (two hh 34).toNat)
def met0 : Met := { up := 0, asc := 0, desc := 0, gap := 0, box := fun _ => 0, long := false, adv := [], bear := [] }
def okAll (mp hd hh hm : ByteArray) : Prop := 6 ≤ mp.size ∧ 54 ≤ hd.size ∧ 36 ≤ hh.size ∧ okMp mp ∧ okHd hd ∧ okHh hh (two mp 4) ∧ okHm hm (two mp 4) (two hh 34)
instance (mp hd hh hm : ByteArray) : Decidable (okAll mp hd hh hm) := by unfold okAll; infer_instance
def readO : Option ByteArray → Option ByteArray → Option ByteArray → Option ByteArray → Option Met
  | some mp, some hd, some hh, some hm => if okAll mp hd hh hm then some (metOf mp hd hh hm) else none
  | _, _, _, _ => none
def readD (l : List Tb) : Option Met := readO (fnd l sMaxp) (fnd l sHead) (fnd l sHhea) (fnd l sHmtx)
theorem readO_some {a b c d : Option ByteArray} {m : Met} (h : readO a b c d = some m) : ∃ mp hd hh hm, a = some mp ∧ b = some hd ∧ c = some hh ∧ d = some hm ∧ okAll mp hd hh hm ∧ m = metOf mp hd hh hm := by
  rcases a with _ | mp
  · simp [readO] at h
  rcases b with _ | hd
  · simp [readO] at h
  rcases c with _ | hh
  · simp [readO] at h
  rcases d with _ | hm
  · simp [readO] at h
  simp only [readO] at h
  split at h
  · rename_i hk
    simp only [Option.some.injEq] at h
    exact ⟨mp, hd, hh, hm, rfl, rfl, rfl, rfl, hk, h.symm⟩
  · simp at h
/-- how it is given back -/
def RMet (F : Mem) (v : Value) (m : Met) : Prop := ∃ ga gc ha hc, v = m.v ga gc ha hc ∧ RIx F ga m.adv ∧ RIx F ha m.bear
def RedMet (o : Option Met) (u : Value) (Y : List (Nat × Row)) : Prop := match o with
  | none => u = .tuple #[met0.v none 0 none 0, .int .i64 90]
  | some m => ∃ b c b' c', u = .tuple #[m.v (some ⟨b, 0, none⟩) c (some ⟨b', 0, none⟩) c', .int .i64 0] ∧ ∀ G, Rd G Y → RIx G (some ⟨b, 0, none⟩) m.adv ∧ RIx G (some ⟨b', 0, none⟩) m.bear
theorem RedMet.no {o : Option Met} {Y : List (Nat × Row)} (h : o = none) : RedMet o (.tuple #[met0.v none 0 none 0, .int .i64 90]) Y := by subst h; rfl
theorem rk2_C (F : Mem) (s : ByteArray) (k : Nat) (h : k + 2 ≤ s.size) (hs : s.size ≤ 140737488355328) : C0 Try.prog 28 [.string s, .int .i64 k] F (.int .i64 (two s k)) := by
  have e : u2 s k = two s k := by rw [u2_in (by omega) (by omega)]; rfl
  rw [← e]
  exact u2_C F s k (by unfold i64ok; omega) hs
theorem rks_C (F : Mem) (s : ByteArray) (k : Nat) (h : k + 2 ≤ s.size) (hs : s.size ≤ 140737488355328) : C0 Try.prog 29 [.string s, .int .i64 k] F (.int .i64 (sg2 (two s k))) := by
  have e : u2 s k = two s k := by rw [u2_in (by omega) (by omega)]; rfl
  rw [← e]
  exact s2_C F s k (by unfold i64ok; omega) hs
theorem fnd_bd {l : List Tb} {B : Nat} (h : ∀ x ∈ l, x.2.size ≤ B) (t : ByteArray) : ((fnd l t).getD ⟨#[]⟩).size ≤ B := by
  unfold fnd
  cases e : l.find? (fun x => decide (x.1 = t)) with
  | none => exact Nat.zero_le _
  | some x => exact h _ (List.mem_of_find?_eq_some e)
theorem SlV.op {g : Value} (h : SlV g) : ∃ a n c, PlA a ∧ g = .slice a n c := by
  rcases h with ⟨b, o, n, c, rfl⟩ | ⟨n, c, rfl⟩
  · exact ⟨_, n, c, .inr (.inl ⟨b, o, rfl⟩), rfl⟩
  · exact ⟨_, n, c, .inl rfl, rfl⟩
theorem nq_t {a b : ByteArray} (h : (!(a.data.toList == b.data.toList)) = true) : a ≠ b := bq_f (by rwa [Bool.not_eq_true'] at h)
theorem nq_f {a b : ByteArray} (h : (!(a.data.toList == b.data.toList)) = false) : a = b := bq_t (by rwa [Bool.not_eq_false'] at h)
theorem readO_none {a b c d : Option ByteArray} (h : ∀ mp hd hh hm, a = some mp → b = some hd → c = some hh → d = some hm → ¬ okAll mp hd hh hm) : readO a b c d = none := by
  rcases hro : readO a b c d with _ | m
  · rfl
  · obtain ⟨mp, hd, hh, hm, e1, e2, e3, e4, hk, _⟩ := readO_some hro
    exact absurd hk (h _ _ _ _ e1 e2 e3 e4)
theorem readO_if {mp hd hh hm : ByteArray} (h : ¬ okAll mp hd hh hm) : readO (some mp) (some hd) (some hh) (some hm) = none := if_neg h
theorem rRead_C (F : Mem) (v : Value) (l : List Tb) (hv : kTb.S F v l) (hs : ∀ x ∈ l, x.2.size ≤ 140737488355328) : C Try.prog 11 [v] F (RedMet (readD l)) := by
  have fM : ∀ G, F.le G → C0 Try.prog 27 [v, .string sMaxp] G (fndV (fnd l sMaxp)) := fun G hl => rFind_C G v l _ (hv.le hl)
  have fD : ∀ G, F.le G → C0 Try.prog 27 [v, .string sHead] G (fndV (fnd l sHead)) := fun G hl => rFind_C G v l _ (hv.le hl)
  have fH : ∀ G, F.le G → C0 Try.prog 27 [v, .string sHhea] G (fndV (fnd l sHhea)) := fun G hl => rFind_C G v l _ (hv.le hl)
  have fX : ∀ G, F.le G → C0 Try.prog 27 [v, .string sHmtx] G (fndV (fnd l sHmtx)) := fun G hl => rFind_C G v l _ (hv.le hl)
  have bM := fnd_bd hs sMaxp
  have bD := fnd_bd hs sHead
  have bH := fnd_bd hs sHhea
  have bX := fnd_bd hs sHmtx
  unfold readD
  obtain ⟨va, vn, vc, hva, rfl⟩ := hv.sl.op
  generalize fnd l sMaxp = om at *
  generalize fnd l sHead = od at *
  generalize fnd l sHhea = oh at *
  generalize fnd l sHmtx = ox at *
  refine C.go hT Try.func11 Try.ntmps11 ?_
  refine sq ?_
  refine rg ?_
  refine al (hL := by simp [ntL, ntV, nt2, argL, hva.nt]) ?_
  refine st (h := O) ?_
  refine nl ?_
  refine sq ?_
  refine rg ?_
  refine st (h := O) ?_
  refine cl (h := by exact fun ι hV hl => (fD _ hl).ofR (arg2 (hva.rV ι _ _) rfl)) ?_
  iterate 5 (refine st (h := O) ?_)
  refine nl ?_
  refine sq ?_
  refine rg ?_
  refine st (h := O) ?_
  refine cl (h := by exact fun ι hV hl => (fH _ hl).ofR (arg2 (hva.rV ι _ _) rfl)) ?_
  iterate 5 (refine st (h := O) ?_)
  refine nl ?_
  refine sq ?_
  refine rg ?_
  refine st (h := O) ?_
  refine cl (h := by exact fun ι hV hl => (fM _ hl).ofR (arg2 (hva.rV ι _ _) rfl)) ?_
  iterate 5 (refine st (h := O) ?_)
  refine nl ?_
  refine sq ?_
  refine rg ?_
  refine st (h := O) ?_
  refine cl (h := by exact fun ι hV hl => (fX _ hl).ofR (arg2 (hva.rV ι _ _) rfl)) ?_
  iterate 5 (refine st (h := O) ?_)
  refine nl ?_
  iterate 2 (refine sq ?_)
  refine J.weak (L0 := [(2, _), (4, _), (5, _), (6, _), (7, _), (8, _), (9, _), (10, _), (11, _)]) (K0 := [(2, _)]) (by exact ⟨rfl, rfl, rfl, rfl, rfl, rfl, rfl, rfl, rfl, trivial⟩) (by exact ⟨rfl, rfl, trivial⟩) ?_
  refine rg ?_
  iterate 3 (refine st (h := O) ?_)
  refine gB (fun g41 => ?_) (fun g41 => ?_)
  · refine sp ?_
    refine sp ?_
    iterate 2 (refine st (h := O) ?_)
    iterate 2 (refine sp ?_)
    iterate 2 (refine st (h := O) ?_)
    iterate 2 (refine sp ?_)
    iterate 2 (refine st (h := O) ?_)
    iterate 3 (refine sp ?_)
    iterate 2 (refine st (h := O) ?_)
    iterate 3 (refine sp ?_)
    iterate 2 (refine st (h := O) ?_)
    iterate 3 (refine sp ?_)
    refine st (h := O) ?_
    refine nl ?_
    refine cT ?_
    refine sq ?_
    refine rg ?_
    refine st (h := O) ?_
    refine so ?_
    refine st (h := O) ?_
    refine nl ?_
    exact rt (RedMet.no (readO_none fun mp hd hh hm e1 e2 e3 e4 hk => by subst e2; simp at g41))
  · refine sg (h := O) ?_
    refine sg (h := O) ?_
    iterate 2 (refine st (h := O) ?_)
    refine gB (fun g45 => ?_) (fun g45 => ?_)
    · refine sp ?_
      refine sp ?_
      iterate 2 (refine st (h := O) ?_)
      iterate 2 (refine sp ?_)
      iterate 2 (refine st (h := O) ?_)
      iterate 3 (refine sp ?_)
      iterate 2 (refine st (h := O) ?_)
      iterate 3 (refine sp ?_)
      iterate 2 (refine st (h := O) ?_)
      iterate 3 (refine sp ?_)
      refine st (h := O) ?_
      refine nl ?_
      refine cT ?_
      refine sq ?_
      refine rg ?_
      refine st (h := O) ?_
      refine so ?_
      refine st (h := O) ?_
      refine nl ?_
      exact rt (RedMet.no (readO_none fun mp hd hh hm e1 e2 e3 e4 hk => by subst e3; simp at g45))
    · refine sg (h := O) ?_
      refine sg (h := O) ?_
      iterate 2 (refine st (h := O) ?_)
      refine gB (fun g49 => ?_) (fun g49 => ?_)
      · refine sp ?_
        refine sp ?_
        iterate 2 (refine st (h := O) ?_)
        iterate 3 (refine sp ?_)
        iterate 2 (refine st (h := O) ?_)
        iterate 3 (refine sp ?_)
        iterate 2 (refine st (h := O) ?_)
        iterate 3 (refine sp ?_)
        refine st (h := O) ?_
        refine nl ?_
        refine cT ?_
        refine sq ?_
        refine rg ?_
        refine st (h := O) ?_
        refine so ?_
        refine st (h := O) ?_
        refine nl ?_
        exact rt (RedMet.no (readO_none fun mp hd hh hm e1 e2 e3 e4 hk => by subst e1; simp at g49))
      · refine sg (h := O) ?_
        refine sg (h := O) ?_
        iterate 2 (refine st (h := O) ?_)
        refine gB (fun g53 => ?_) (fun g53 => ?_)
        · refine sp ?_
          iterate 2 (refine sp ?_)
          iterate 2 (refine st (h := O) ?_)
          iterate 3 (refine sp ?_)
          iterate 2 (refine st (h := O) ?_)
          iterate 3 (refine sp ?_)
          refine st (h := O) ?_
          refine nl ?_
          refine cT ?_
          refine sq ?_
          refine rg ?_
          refine st (h := O) ?_
          refine so ?_
          refine st (h := O) ?_
          refine nl ?_
          exact rt (RedMet.no (readO_none fun mp hd hh hm e1 e2 e3 e4 hk => by subst e4; simp at g53))
        · refine sg (h := O) ?_
          iterate 2 (refine sg (h := O) ?_)
          iterate 2 (refine st (h := O) ?_)
          refine gD (fun g58 => ?_) (fun g58 => ?_)
          · refine sp ?_
            iterate 2 (refine sp ?_)
            iterate 2 (refine st (h := O) ?_)
            iterate 3 (refine sp ?_)
            refine st (h := O) ?_
            refine nl ?_
            refine cT ?_
            refine sq ?_
            refine rg ?_
            refine st (h := O) ?_
            refine so ?_
            refine st (h := O) ?_
            refine nl ?_
            exact rt (RedMet.no (readO_none fun mp hd hh hm e1 e2 e3 e4 hk => by subst e1; have := hk.1; simp at g58; omega))
          · refine sg (h := O) ?_
            iterate 2 (refine sg (h := O) ?_)
            iterate 2 (refine st (h := O) ?_)
            refine gD (fun g63 => ?_) (fun g63 => ?_)
            · refine sp ?_
              iterate 2 (refine sp ?_)
              refine st (h := O) ?_
              refine nl ?_
              refine cT ?_
              refine sq ?_
              refine rg ?_
              refine st (h := O) ?_
              refine so ?_
              refine st (h := O) ?_
              refine nl ?_
              exact rt (RedMet.no (readO_none fun mp hd hh hm e1 e2 e3 e4 hk => by subst e2; have := hk.2.1; simp at g63; omega))
            · refine sg (h := O) ?_
              iterate 2 (refine sg (h := O) ?_)
              refine st (h := O) ?_
              refine nl ?_
              refine cD (fun c0 => ?_) (fun c0 => ?_)
              · refine sq ?_
                refine rg ?_
                refine st (h := O) ?_
                refine so ?_
                refine st (h := O) ?_
                refine nl ?_
                exact rt (RedMet.no (readO_none fun mp hd hh hm e1 e2 e3 e4 hk => by subst e3; have := hk.2.2.1; simp at c0; omega))
              · obtain ⟨hd, rfl⟩ : ∃ x, od = some x := Option.isSome_iff_exists.1 (by simpa using g41)
                obtain ⟨hh, rfl⟩ : ∃ x, oh = some x := Option.isSome_iff_exists.1 (by simpa using g45)
                obtain ⟨mp, rfl⟩ : ∃ x, om = some x := Option.isSome_iff_exists.1 (by simpa using g49)
                obtain ⟨hm, rfl⟩ : ∃ x, ox = some x := Option.isSome_iff_exists.1 (by simpa using g53)
                simp only [Option.getD_some] at *
                have z1 : 6 ≤ mp.size := by omega
                have z2 : 54 ≤ hd.size := by omega
                have z3 : 36 ≤ hh.size := by omega
                have w1 := two_bd mp 4
                have w2 := two_bd hh 34
                refine sk ?_
                refine sq ?_
                refine J.weak (L0 := [(2, _), (4, _), (6, _), (8, _), (10, _)]) (K0 := [(2, _)]) (by exact ⟨rfl, rfl, rfl, rfl, rfl, trivial⟩) (by exact ⟨rfl, rfl, trivial⟩) ?_
                refine rg ?_
                refine st (h := O) ?_
                refine cl (h := by exact fun ι hV hl => rk2_C _ mp 4 (by omega) bM) ?_
                refine st (h := O) ?_
                refine nl ?_
                refine sq ?_
                refine rg ?_
                refine st (h := O) ?_
                refine cl (h := by exact fun ι hV hl => rk2_C _ hh 34 (by omega) bH) ?_
                refine st (h := O) ?_
                refine nl ?_
                refine sq ?_
                refine rg ?_
                refine st (h := O) ?_
                refine cl (h := by exact fun ι hV hl => rk2_C _ hd 18 (by omega) bD) ?_
                refine st (h := O) ?_
                refine nl ?_
                refine sq ?_
                refine rg ?_
                refine st (h := O) ?_
                refine cl (h := by exact fun ι hV hl => rk2_C _ hd 50 (by omega) bD) ?_
                refine st (h := O) ?_
                refine nl ?_
                iterate 2 (refine sq ?_)
                refine J.cut1 (α := Bool) (fun q => q = decide (¬ okMp mp)) (fun q => [(92, .bool q)]) [(2, _), (4, _), (6, _), (10, _), (12, _), (13, _), (14, _), (15, _)] (fun q => []) [(2, _)] (by exact ⟨rfl, rfl, rfl, rfl, rfl, rfl, rfl, rfl, trivial⟩) (by exact ⟨rfl, rfl, trivial⟩) ?_ ?_
                · refine rg ?_
                  refine st (h := O) ?_
                  refine st (h := sdCut 0 4) ?_
                  iterate 2 (refine st (h := O) ?_)
                  refine gB (fun g80 => ?_) (fun g80 => ?_)
                  · have e80 : mp.extract 0 4 ≠ vHalf := nq_t g80
                    refine sg (h := O) ?_
                    refine sg (h := sdCut 0 4) ?_
                    refine sg (h := O) ?_
                    iterate 2 (refine st (h := O) ?_)
                    refine gB (fun g85 => ?_) (fun g85 => ?_)
                    · have e85 : mp.extract 0 4 ≠ vOne := nq_t g85
                      iterate 2 (refine sp ?_)
                      iterate 2 (refine st (h := O) ?_)
                      iterate 2 (refine sp ?_)
                      refine st (h := O) ?_
                      refine nl ?_
                      refine ck1 (_) (by exact ⟨rfl, trivial⟩) (by exact ⟨rfl, rfl, rfl, rfl, rfl, rfl, rfl, rfl, trivial⟩) (by exact ⟨rfl, rfl, trivial⟩) ?_
                      first
                        | (rw [eq_comm, decide_eq_true_eq]; rintro ⟨e1, e2, e3⟩; first | omega | (rcases e1 with e1 | e1; exact e80 e1; exact e85 e1))
                        | (rw [decide_eq_decide]; unfold okMp; constructor
                           · rintro e ⟨_, _, _⟩; omega
                           · intro e; refine Decidable.byContradiction fun e2 => e ⟨?_, by omega, by omega⟩
                             first | exact .inl e80 | exact .inr e85)
                    · have e85 : mp.extract 0 4 = vOne := nq_f g85
                      iterate 2 (refine sg (h := O) ?_)
                      iterate 2 (refine st (h := O) ?_)
                      refine gD (fun g89 => ?_) (fun g89 => ?_)
                      · refine sp ?_
                        refine sp ?_
                        refine st (h := O) ?_
                        refine nl ?_
                        refine ck1 (_) (by exact ⟨rfl, trivial⟩) (by exact ⟨rfl, rfl, rfl, rfl, rfl, rfl, rfl, rfl, trivial⟩) (by exact ⟨rfl, rfl, trivial⟩) ?_
                        first
                          | (rw [eq_comm, decide_eq_true_eq]; rintro ⟨e1, e2, e3⟩; first | omega | (rcases e1 with e1 | e1; exact e80 e1; exact e85 e1))
                          | (rw [decide_eq_decide]; unfold okMp; constructor
                             · rintro e ⟨_, _, _⟩; omega
                             · intro e; refine Decidable.byContradiction fun e2 => e ⟨?_, by omega, by omega⟩
                               first | exact .inl e80 | exact .inr e85)
                      · refine sg (h := O) ?_
                        refine sg (h := O) ?_
                        refine st (h := O) ?_
                        refine nl ?_
                        refine ck1 (_) (by exact ⟨rfl, trivial⟩) (by exact ⟨rfl, rfl, rfl, rfl, rfl, rfl, rfl, rfl, trivial⟩) (by exact ⟨rfl, rfl, trivial⟩) ?_
                        first
                          | (rw [eq_comm, decide_eq_true_eq]; rintro ⟨e1, e2, e3⟩; first | omega | (rcases e1 with e1 | e1; exact e80 e1; exact e85 e1))
                          | (rw [decide_eq_decide]; unfold okMp; constructor
                             · rintro e ⟨_, _, _⟩; omega
                             · intro e; refine Decidable.byContradiction fun e2 => e ⟨?_, by omega, by omega⟩
                               first | exact .inl e80 | exact .inr e85)
                  · have e80 : mp.extract 0 4 = vHalf := nq_f g80
                    iterate 3 (refine sp ?_)
                    iterate 2 (refine st (h := O) ?_)
                    iterate 2 (refine sg (h := O) ?_)
                    iterate 2 (refine st (h := O) ?_)
                    refine gD (fun g89 => ?_) (fun g89 => ?_)
                    · refine sp ?_
                      refine sp ?_
                      refine st (h := O) ?_
                      refine nl ?_
                      refine ck1 (_) (by exact ⟨rfl, trivial⟩) (by exact ⟨rfl, rfl, rfl, rfl, rfl, rfl, rfl, rfl, trivial⟩) (by exact ⟨rfl, rfl, trivial⟩) ?_
                      first
                        | (rw [eq_comm, decide_eq_true_eq]; rintro ⟨e1, e2, e3⟩; first | omega | (rcases e1 with e1 | e1; exact e80 e1; exact e85 e1))
                        | (rw [decide_eq_decide]; unfold okMp; constructor
                           · rintro e ⟨_, _, _⟩; omega
                           · intro e; refine Decidable.byContradiction fun e2 => e ⟨?_, by omega, by omega⟩
                             first | exact .inl e80 | exact .inr e85)
                    · refine sg (h := O) ?_
                      refine sg (h := O) ?_
                      refine st (h := O) ?_
                      refine nl ?_
                      refine ck1 (_) (by exact ⟨rfl, trivial⟩) (by exact ⟨rfl, rfl, rfl, rfl, rfl, rfl, rfl, rfl, trivial⟩) (by exact ⟨rfl, rfl, trivial⟩) ?_
                      first
                        | (rw [eq_comm, decide_eq_true_eq]; rintro ⟨e1, e2, e3⟩; first | omega | (rcases e1 with e1 | e1; exact e80 e1; exact e85 e1))
                        | (rw [decide_eq_decide]; unfold okMp; constructor
                           · rintro e ⟨_, _, _⟩; omega
                           · intro e; refine Decidable.byContradiction fun e2 => e ⟨?_, by omega, by omega⟩
                             first | exact .inl e80 | exact .inr e85)
                · intro q L1 K1 e1 e2 hI
                  dsimp only [List.cons_append, List.nil_append] at e1 e2
                  subst e1 e2
                  refine cB (fun c1 => ?_) (fun c1 => ?_)
                  · refine sq ?_
                    refine rg ?_
                    refine st (h := O) ?_
                    refine so ?_
                    refine st (h := O) ?_
                    refine nl ?_
                    exact rt (RedMet.no (readO_if fun hk => by rw [c1, eq_comm, decide_eq_true_eq] at hI; exact hI hk.2.2.2.1))
                  · have hmp : okMp mp := by rw [c1, eq_comm, decide_eq_false_iff_not, Decidable.not_not] at hI; exact hI
                    have hmp2 := hmp.2
                    refine sk ?_
                    iterate 2 (refine sq ?_)
                    refine rg ?_
                    refine st (h := O) ?_
                    refine st (h := sdCut 0 4) ?_
                    iterate 2 (refine st (h := O) ?_)
                    refine gB (fun g97 => ?_) (fun g97 => ?_)
                    · refine sp ?_
                      iterate 2 (refine sp ?_)
                      iterate 2 (refine st (h := O) ?_)
                      iterate 2 (refine sp ?_)
                      iterate 2 (refine st (h := O) ?_)
                      iterate 2 (refine sp ?_)
                      iterate 2 (refine st (h := O) ?_)
                      iterate 2 (refine sp ?_)
                      iterate 2 (refine st (h := O) ?_)
                      iterate 3 (refine sp ?_)
                      refine st (h := O) ?_
                      refine nl ?_
                      refine cT ?_
                      refine sq ?_
                      refine rg ?_
                      refine st (h := O) ?_
                      refine so ?_
                      refine st (h := O) ?_
                      refine nl ?_
                      exact rt (RedMet.no (readO_if fun hk => nq_t g97 hk.2.2.2.2.1.1))
                    · refine sg (h := O) ?_
                      refine sg (h := sdCut 12 16) ?_
                      refine sg (h := O) ?_
                      iterate 2 (refine st (h := O) ?_)
                      refine gB (fun g102 => ?_) (fun g102 => ?_)
                      · refine sp ?_
                        refine sp ?_
                        iterate 2 (refine st (h := O) ?_)
                        iterate 2 (refine sp ?_)
                        iterate 2 (refine st (h := O) ?_)
                        iterate 2 (refine sp ?_)
                        iterate 2 (refine st (h := O) ?_)
                        iterate 3 (refine sp ?_)
                        refine st (h := O) ?_
                        refine nl ?_
                        refine cT ?_
                        refine sq ?_
                        refine rg ?_
                        refine st (h := O) ?_
                        refine so ?_
                        refine st (h := O) ?_
                        refine nl ?_
                        exact rt (RedMet.no (readO_if fun hk => nq_t g102 hk.2.2.2.2.1.2.1))
                      · refine sg (h := O) ?_
                        refine sg (h := O) ?_
                        iterate 2 (refine st (h := O) ?_)
                        refine gD (fun g106 => ?_) (fun g106 => ?_)
                        · refine sp ?_
                          refine sp ?_
                          iterate 2 (refine st (h := O) ?_)
                          iterate 2 (refine sp ?_)
                          iterate 2 (refine st (h := O) ?_)
                          iterate 3 (refine sp ?_)
                          refine st (h := O) ?_
                          refine nl ?_
                          refine cT ?_
                          refine sq ?_
                          refine rg ?_
                          refine st (h := O) ?_
                          refine so ?_
                          refine st (h := O) ?_
                          refine nl ?_
                          exact rt (RedMet.no (readO_if fun hk => by have := hk.2.2.2.2.1.2.2; omega))
                        · refine sg (h := O) ?_
                          refine sg (h := O) ?_
                          iterate 2 (refine st (h := O) ?_)
                          refine gD (fun g110 => ?_) (fun g110 => ?_)
                          · refine sp ?_
                            refine sp ?_
                            iterate 2 (refine st (h := O) ?_)
                            iterate 3 (refine sp ?_)
                            refine st (h := O) ?_
                            refine nl ?_
                            refine cT ?_
                            refine sq ?_
                            refine rg ?_
                            refine st (h := O) ?_
                            refine so ?_
                            refine st (h := O) ?_
                            refine nl ?_
                            exact rt (RedMet.no (readO_if fun hk => by have := hk.2.2.2.2.1.2.2; omega))
                          · refine sg (h := O) ?_
                            refine sg (h := O) ?_
                            iterate 2 (refine st (h := O) ?_)
                            refine gD (fun g114 => ?_) (fun g114 => ?_)
                            · refine sp ?_
                              iterate 2 (refine sp ?_)
                              refine st (h := O) ?_
                              refine nl ?_
                              refine cT ?_
                              refine sq ?_
                              refine rg ?_
                              refine st (h := O) ?_
                              refine so ?_
                              refine st (h := O) ?_
                              refine nl ?_
                              exact rt (RedMet.no (readO_if fun hk => by have := hk.2.2.2.2.1.2.2; omega))
                            · refine sg (h := O) ?_
                              refine clg (h := by exact fun ι hV hl => rk2_C _ hd 52 (by omega) bD) ?_
                              refine sg (h := O) ?_
                              refine st (h := O) ?_
                              refine nl ?_
                              refine cN (fun c2 => ?_) (fun c2 => ?_)
                              · refine sq ?_
                                refine rg ?_
                                refine st (h := O) ?_
                                refine so ?_
                                refine st (h := O) ?_
                                refine nl ?_
                                exact rt (RedMet.no (readO_if fun hk => by have := hk.2.2.2.2.1.2.2; omega))
                              · have hhd : okHd hd := ⟨nq_f g97, nq_f g102, by omega, by omega, by omega, by omega⟩
                                refine sk ?_
                                iterate 2 (refine sq ?_)
                                refine rg ?_
                                refine st (h := O) ?_
                                refine st (h := sdCut 0 4) ?_
                                iterate 2 (refine st (h := O) ?_)
                                refine gB (fun g123 => ?_) (fun g123 => ?_)
                                · refine sp ?_
                                  iterate 2 (refine sp ?_)
                                  iterate 2 (refine st (h := O) ?_)
                                  iterate 2 (refine sp ?_)
                                  iterate 2 (refine st (h := O) ?_)
                                  iterate 3 (refine sp ?_)
                                  iterate 2 (refine st (h := O) ?_)
                                  iterate 10 (refine sp ?_)
                                  refine st (h := O) ?_
                                  refine nl ?_
                                  refine cT ?_
                                  refine sq ?_
                                  refine rg ?_
                                  refine st (h := O) ?_
                                  refine so ?_
                                  refine st (h := O) ?_
                                  refine nl ?_
                                  exact rt (RedMet.no (readO_if fun hk => nq_t g123 hk.2.2.2.2.2.1.1))
                                · refine sg (h := O) ?_
                                  refine clg (h := by exact fun ι hV hl => rk2_C _ hh 32 (by omega) bH) ?_
                                  refine sg (h := O) ?_
                                  iterate 2 (refine st (h := O) ?_)
                                  refine gN (fun g128 => ?_) (fun g128 => ?_)
                                  · refine sp ?_
                                    refine sp ?_
                                    iterate 2 (refine st (h := O) ?_)
                                    iterate 3 (refine sp ?_)
                                    iterate 2 (refine st (h := O) ?_)
                                    iterate 10 (refine sp ?_)
                                    refine st (h := O) ?_
                                    refine nl ?_
                                    refine cT ?_
                                    refine sq ?_
                                    refine rg ?_
                                    refine st (h := O) ?_
                                    refine so ?_
                                    refine st (h := O) ?_
                                    refine nl ?_
                                    exact rt (RedMet.no (readO_if fun hk => by have := hk.2.2.2.2.2.1.2; have := hk.2.2.2.2.2.2; unfold okHm at this; omega))
                                  · refine sg (h := O) ?_
                                    refine sg (h := O) ?_
                                    iterate 2 (refine st (h := O) ?_)
                                    refine gD (fun g132 => ?_) (fun g132 => ?_)
                                    · refine sp ?_
                                      iterate 2 (refine sp ?_)
                                      iterate 2 (refine st (h := O) ?_)
                                      iterate 10 (refine sp ?_)
                                      refine st (h := O) ?_
                                      refine nl ?_
                                      refine cT ?_
                                      refine sq ?_
                                      refine rg ?_
                                      refine st (h := O) ?_
                                      refine so ?_
                                      refine st (h := O) ?_
                                      refine nl ?_
                                      exact rt (RedMet.no (readO_if fun hk => by have := hk.2.2.2.2.2.1.2; have := hk.2.2.2.2.2.2; unfold okHm at this; omega))
                                    · refine sg (h := O) ?_
                                      iterate 2 (refine sg (h := O) ?_)
                                      iterate 2 (refine st (h := O) ?_)
                                      refine gD (fun g137 => ?_) (fun g137 => ?_)
                                      · refine sp ?_
                                        iterate 9 (refine sp ?_)
                                        refine st (h := O) ?_
                                        refine nl ?_
                                        refine cT ?_
                                        refine sq ?_
                                        refine rg ?_
                                        refine st (h := O) ?_
                                        refine so ?_
                                        refine st (h := O) ?_
                                        refine nl ?_
                                        exact rt (RedMet.no (readO_if fun hk => by have := hk.2.2.2.2.2.1.2; have := hk.2.2.2.2.2.2; unfold okHm at this; omega))
                                      · refine sg (h := O) ?_
                                        iterate 2 (refine sg (h := O) ?_)
                                        refine sg (h := sdM) ?_
                                        iterate 2 (refine sg (h := O) ?_)
                                        refine sg (h := sdS) ?_
                                        refine sg (h := sdM) ?_
                                        refine sg (h := sdA) ?_
                                        refine sg (h := O) ?_
                                        refine st (h := O) ?_
                                        refine nl ?_
                                        refine cD (fun c3 => ?_) (fun c3 => ?_)
                                        · refine sq ?_
                                          refine rg ?_
                                          refine st (h := O) ?_
                                          refine so ?_
                                          refine st (h := O) ?_
                                          refine nl ?_
                                          exact rt (RedMet.no (readO_if fun hk => by have := hk.2.2.2.2.2.1.2; have := hk.2.2.2.2.2.2; unfold okHm at this; omega))
                                        · have hhh : okHh hh (two mp 4) := ⟨nq_f g123, by omega, by omega, by omega⟩
                                          have hhm : okHm hm (two mp 4) (two hh 34) := by unfold okHm; omega
                                          have hok : readO (some mp) (some hd) (some hh) (some hm) = some (metOf mp hd hh hm) := if_pos ⟨z1, z2, z3, hmp, hhd, hhh, hhm⟩
                                          have w3 := hhh.2.2
                                          unfold okHm at hhm
                                          clear hI g41 g45 g49 g53 g58 g63
                                          refine sk ?_
                                          refine sq ?_
                                          refine J.weak (L0 := [(2, _), (4, _), (6, _), (10, _), (12, _), (13, _), (14, _), (15, _)]) (K0 := [(2, _)]) (by exact ⟨rfl, rfl, rfl, rfl, rfl, rfl, rfl, rfl, trivial⟩) (by exact ⟨rfl, rfl, trivial⟩) ?_
                                          refine rg ?_
                                          iterate 4 (refine st (h := O) ?_)
                                          refine cl (h := by exact fun ι hV hl => rks_C _ hh 4 (by omega) bH) ?_
                                          refine st (h := O) ?_
                                          refine cl (h := by exact fun ι hV hl => rks_C _ hh 6 (by omega) bH) ?_
                                          refine st (h := O) ?_
                                          refine cl (h := by exact fun ι hV hl => rks_C _ hh 8 (by omega) bH) ?_
                                          refine st (h := O) ?_
                                          refine al ?_
                                          refine so ?_
                                          refine nl ?_
                                          iterate 2 (refine sq ?_)
                                          refine rg ?_
                                          refine st (h := O) ?_
                                          refine nl ?_
                                          refine bl ?_
                                          refine J.loop2 (α := Nat) (β := Nat → Int) (fun k B => k ≤ 4 ∧ ∀ j < k, B j = sg2 (two hd (36 + 2 * j))) (fun k B => [(17, .int .i64 k)]) [(2, _), (4, _), (10, _), (12, _), (13, _), (16, _)] (fun k B => [(16, { elem := 28, cs := [.int .i64 (two hd 18), .int .i64 (sg2 (two hh 4)), .int .i64 (sg2 (two hh 6)), .int .i64 (sg2 (two hh 8))] ++ (gI B 4 ++ [.bool (decide (two hd 50 = 1)), .slice none 0 0, .slice none 0 0]), room := 11, fz := false, flat := false })]) [(2, _)] (fun k B => 4 - k) (0) (fun _ => 0) (by exact ⟨rfl, trivial⟩) (by exact ⟨rfl, rfl, rfl, rfl, rfl, rfl, trivial⟩) (by exact ⟨rfl, rfl, rfl, rfl, trivial⟩) ?_ ?_
                                          · exact ⟨Nat.zero_le _, fun j hj => absurd hj (Nat.not_lt_zero _)⟩
                                          · intro k B L1 K1 e1 e2 hI
                                            dsimp only [apV, apR, List.cons_append, List.nil_append] at e1 e2
                                            subst e1 e2
                                            obtain ⟨hk, hB⟩ := hI
                                            iterate 2 (refine sq ?_)
                                            refine rg ?_
                                            iterate 2 (refine st (h := O) ?_)
                                            refine nl ?_
                                            refine cD (fun c4 => ?_) (fun c4 => ?_)
                                            · have hk4 : k < 4 := by omega
                                              refine sk ?_
                                              refine sq ?_
                                              refine bl ?_
                                              refine rg ?_
                                              iterate 3 (refine st (h := O) ?_)
                                              refine st (h := sdM) ?_
                                              refine st (h := sdA) ?_
                                              refine cl (h := by exact fun ι hV hl => (rks_C _ hd (36 + 2 * k) (by omega) bD).ofR (arg2 rfl (congrArg (Value.int .i64) (show (36 + 2 * (k : Int)) = ((36 + 2 * k : Nat) : Int) from by omega)))) ?_
                                              refine st (h := sdFA) ?_
                                              refine st (h := (sdXA (z := 1))) ?_
                                              refine soX (k := k) (n := 4) (B := B) [_, _, _, _] [_, _, _] ?_
                                              refine nl ?_
                                              refine bk ?_
                                              refine rg ?_
                                              refine st (h := O) ?_
                                              refine st (h := sdA) ?_
                                              refine st (h := O) ?_
                                              refine nl ?_
                                              refine bk2 (k + 1) (setI B k (sg2 (two hd (36 + 2 * k)))) (by exact ⟨rfl, trivial⟩) (by exact ⟨rfl, rfl, rfl, rfl, rfl, rfl, trivial⟩) (by exact ⟨rfl, rfl, rfl, rfl, trivial⟩) ?_ ?_
                                              · omega
                                              · refine ⟨by omega, fun j hj => ?_⟩
                                                unfold setI
                                                split
                                                · rename_i e; rw [e]
                                                · exact hB j (by omega)
                                            · obtain rfl : k = 4 := by omega
                                              refine ex ?_
                                              iterate 2 (refine sq ?_)
                                              refine J.weak (L0 := [(2, _), (10, _), (12, _), (13, _), (16, _)]) (K0 := [(16, _), (2, _)]) (by exact ⟨rfl, rfl, rfl, rfl, rfl, trivial⟩) (by exact ⟨rfl, rfl, rfl, rfl, trivial⟩) ?_
                                              refine rg ?_
                                              refine st (h := O) ?_
                                              refine nl ?_
                                              refine bl ?_
                                              refine J.loop5 (α := Option (Nat × Nat)) (β := Nat) (γ := Nat) (δ := List Value) (ε := List Value) (fun o m k ca cb => k ≤ (two mp 4).toNat ∧ m = k ∧ apB (o.map Prod.fst) m ∧ apB (o.map Prod.snd) m ∧ ca = ivs ((List.range k).map (advAt hm (two hh 34).toNat)) ∧ cb = ivs ((List.range k).map (bearAt hm (two hh 34).toNat))) (fun o m k ca cb => [(18, .int .i64 k)]) [(2, _), (10, _), (12, _), (13, _), (16, _)] (fun o m k ca cb => apR 500002 3 1 true (o.map Prod.fst) ca ++ apR 500003 3 1 true (o.map Prod.snd) cb ++ [(16, { elem := 28, cs := [.int .i64 (two hd 18), .int .i64 (sg2 (two hh 4)), .int .i64 (sg2 (two hh 6)), .int .i64 (sg2 (two hh 8))] ++ (gI B 4 ++ [.bool (decide (two hd 50 = 1)), apV 500002 (o.map Prod.fst) m, apV 500003 (o.map Prod.snd) m]), room := 11, fz := false, flat := false })]) [(2, _)] (fun o m k ca cb => (two mp 4).toNat - k) (none) (0) (0) ([]) ([]) (by exact ⟨rfl, trivial⟩) (by exact ⟨rfl, rfl, rfl, rfl, rfl, trivial⟩) (by exact (by repeat' first | exact trivial | refine And.intro rfl ?_)) ?_ ?_
                                              · exact ⟨Nat.zero_le _, rfl, rfl, rfl, rfl, rfl⟩
                                              · intro o m k ca cb L1 K1 e1 e2 hI
                                                rcases o with _ | cap_o
                                                all_goals
                                                  dsimp only [apV, apR, List.cons_append, List.nil_append] at e1 e2
                                                  subst e1 e2
                                                  obtain ⟨hk1, hmk, ha1, ha2, hca, hcb⟩ := hI
                                                  simp only [apB, Option.map_none, Option.map_some] at ha1 ha2
                                                  try (obtain rfl : m = 0 := ha1)
                                                  iterate 2 (refine sq ?_)
                                                  refine rg ?_
                                                  iterate 3 (refine st (h := O) ?_)
                                                  refine nl ?_
                                                  refine cD (fun c5 => ?_) (fun c5 => ?_)
                                                  · have hkn : k < (two mp 4).toNat := by omega
                                                    have hcl : ca.length = k := by rw [hca, ivs_length]; simp
                                                    have hcl2 : cb.length = k := by rw [hcb, ivs_length]; simp
                                                    refine sk ?_
                                                    refine sq ?_
                                                    refine bl ?_
                                                    refine sq ?_
                                                    refine rg ?_
                                                    iterate 3 (refine st (h := O) ?_)
                                                    refine nl ?_
                                                    refine cD (fun c6 => ?_) (fun c6 => ?_)
                                                    · have eA : advAt hm (two hh 34).toNat k = two hm (4 * k) := by rw [advAt, Nat.min_eq_left (by omega)]
                                                      have eB : bearAt hm (two hh 34).toNat k = sg2 (two hm (4 * k + 2)) := by rw [bearAt, if_pos (by omega)]
                                                      refine sq ?_
                                                      refine dr 7 [16, 2, 500002, 500003] [2000, 1, 2002, 2003, 2004, 1005, 1006, 1007, 2008, 1009] ?_
                                                      refine dq (hv := by exact fun _ _ => sdFA) ?_
                                                      refine dt (hv := by exact sdL) ?_
                                                      iterate 2 (refine dq (hv := by exact fun _ _ => O) ?_)
                                                      refine dq (hv := by exact fun _ _ => sdM) ?_
                                                      refine dcl (hkp := by first | exact Kept.all | exact Kept.k0 | exact Kept.kY | exact Kept.kYY | exact Kept.kY3) (h := by exact fun ι hV hl => (rk2_C _ hm (4 * k) (by omega) bX).ofR (arg2 rfl (congrArg (Value.int .i64) (show (4 * (k : Int)) = ((4 * k : Nat) : Int) from by omega)))) ?_
                                                      refine dsl ?_
                                                      first | refine dapN (news := [_]) 500012 true ?_ | refine dapO (news := [_]) 500012 ?_
                                                      intro cap187 hc187 hd187
                                                      refine dq (hv := by exact fun _ _ => sdFA) ?_
                                                      refine dso (hkp := by first | exact Kept.all | exact Kept.k0 | exact Kept.kY | exact Kept.kYY | exact Kept.kY3) ?_
                                                      refine dn ?_
                                                      refine dr 8 [500012, 186, 16, 2, 500003] [2000, 1, 2002, 2003, 2004, 2005, 1006, 1007, 1008, 2009, 1010] ?_
                                                      refine dq (hv := by exact fun _ _ => sdFA) ?_
                                                      refine dt (hv := by exact sdL) ?_
                                                      iterate 2 (refine dq (hv := by exact fun _ _ => O) ?_)
                                                      refine dq (hv := by exact fun _ _ => sdM) ?_
                                                      refine dq (hv := by exact fun _ _ => sdA) ?_
                                                      refine dcl (hkp := by first | exact Kept.all | exact Kept.k0 | exact Kept.kY | exact Kept.kYY | exact Kept.kY3) (h := by exact fun ι hV hl => (rks_C _ hm (4 * k + 2) (by omega) bX).ofR (arg2 rfl (congrArg (Value.int .i64) (show (4 * (k : Int) + 2) = ((4 * k + 2 : Nat) : Int) from by omega)))) ?_
                                                      refine dsl ?_
                                                      first | refine dapN (news := [_]) 500013 true ?_ | refine dapO (news := [_]) 500013 ?_
                                                      intro cap197 hc197 hd197
                                                      refine dq (hv := by exact fun _ _ => sdFA) ?_
                                                      refine dso (hkp := by first | exact Kept.all | exact Kept.k0 | exact Kept.kY | exact Kept.kYY | exact Kept.kY3) ?_
                                                      refine dn ?_
                                                      refine bk ?_
                                                      refine rg ?_
                                                      refine JL.retagC (A := 16) (t := 500012) (u := 500002) (off := 9) [(2, _), (10, _), (12, _), (13, _), (16, _), (18, _)] [(500013, _), (2, _)] ?_
                                                      refine JL.retagC (A := 16) (t := 500013) (u := 500003) (off := 10) [(2, _), (10, _), (12, _), (13, _), (16, _), (18, _)] [(500002, _), (2, _)] ?_
                                                      refine st (h := O) ?_
                                                      refine st (h := sdA) ?_
                                                      refine st (h := O) ?_
                                                      refine nl ?_
                                                      refine bk5 (some (_, _)) (_) (k + 1) (_) (_) (by exact ⟨rfl, trivial⟩) (by exact ⟨rfl, rfl, rfl, rfl, rfl, trivial⟩) (by exact (by repeat' first | exact trivial | refine And.intro rfl ?_)) ?_ ?_
                                                      · omega
                                                      · refine ⟨by omega, by omega, ⟨by omega, by omega⟩, ⟨by omega, by omega⟩, ?_, ?_⟩
                                                        · rw [List.range_succ, List.map_append, ivs_append, ← hca, List.map_cons, List.map_nil, eA]
                                                          first
                                                            | rfl
                                                            | (rw [show ca = [] from List.eq_nil_of_length_eq_zero (by omega)]; rfl)
                                                        · rw [List.range_succ, List.map_append, ivs_append, ← hcb, List.map_cons, List.map_nil, eB]
                                                          first
                                                            | rfl
                                                            | (rw [show cb = [] from List.eq_nil_of_length_eq_zero (by omega)]; rfl)
                                                    · have eA : advAt hm (two hh 34).toNat k = two hm (4 * (two hh 34).toNat - 4) := by rw [advAt, Nat.min_eq_right (by omega)]; congr 1; omega
                                                      have eB : bearAt hm (two hh 34).toNat k = sg2 (two hm (4 * (two hh 34).toNat + 2 * (k - (two hh 34).toNat))) := by rw [bearAt, if_neg (by omega)]
                                                      refine sq ?_
                                                      refine dr 8 [16, 2, 500002, 500003] [2000, 1, 2002, 2003, 2004, 2005, 1006, 1007, 1008, 2009, 1010] ?_
                                                      refine dq (hv := by exact fun _ _ => sdFA) ?_
                                                      refine dt (hv := by exact sdL) ?_
                                                      iterate 2 (refine dq (hv := by exact fun _ _ => O) ?_)
                                                      refine dq (hv := by exact fun _ _ => sdM) ?_
                                                      refine dq (hv := by exact fun _ _ => sdS) ?_
                                                      refine dcl (hkp := by first | exact Kept.all | exact Kept.k0 | exact Kept.kY | exact Kept.kYY | exact Kept.kY3) (h := by exact fun ι hV hl => (rk2_C _ hm (4 * (two hh 34).toNat - 4) (by omega) bX).ofR (arg2 rfl (congrArg (Value.int .i64) (show (4 * two hh 34 - 4) = ((4 * (two hh 34).toNat - 4 : Nat) : Int) from by omega)))) ?_
                                                      refine dsl ?_
                                                      first | refine dapN (news := [_]) 500012 true ?_ | refine dapO (news := [_]) 500012 ?_
                                                      intro cap207 hc207 hd207
                                                      refine dq (hv := by exact fun _ _ => sdFA) ?_
                                                      refine dso (hkp := by first | exact Kept.all | exact Kept.k0 | exact Kept.kY | exact Kept.kYY | exact Kept.kY3) ?_
                                                      refine dn ?_
                                                      refine dr 12 [500012, 206, 16, 2, 500003] [2000, 1, 2002, 2003, 2004, 2005, 2006, 2007, 2008, 2009, 1010, 1011, 1012, 2013, 1014] ?_
                                                      refine dq (hv := by exact fun _ _ => sdFA) ?_
                                                      refine dt (hv := by exact sdL) ?_
                                                      iterate 2 (refine dq (hv := by exact fun _ _ => O) ?_)
                                                      refine dq (hv := by exact fun _ _ => sdM) ?_
                                                      iterate 2 (refine dq (hv := by exact fun _ _ => O) ?_)
                                                      refine dq (hv := by exact fun _ _ => sdS) ?_
                                                      refine dq (hv := by exact fun _ _ => sdM) ?_
                                                      refine dq (hv := by exact fun _ _ => sdA) ?_
                                                      refine dcl (hkp := by first | exact Kept.all | exact Kept.k0 | exact Kept.kY | exact Kept.kYY | exact Kept.kY3) (h := by exact fun ι hV hl => (rks_C _ hm (4 * (two hh 34).toNat + 2 * (k - (two hh 34).toNat)) (by omega) bX).ofR (arg2 rfl (congrArg (Value.int .i64) (show (4 * two hh 34 + 2 * ((k : Int) - two hh 34)) = ((4 * (two hh 34).toNat + 2 * (k - (two hh 34).toNat) : Nat) : Int) from by omega)))) ?_
                                                      refine dsl ?_
                                                      first | refine dapN (news := [_]) 500013 true ?_ | refine dapO (news := [_]) 500013 ?_
                                                      intro cap221 hc221 hd221
                                                      refine dq (hv := by exact fun _ _ => sdFA) ?_
                                                      refine dso (hkp := by first | exact Kept.all | exact Kept.k0 | exact Kept.kY | exact Kept.kYY | exact Kept.kY3) ?_
                                                      refine dn ?_
                                                      refine bk ?_
                                                      refine rg ?_
                                                      refine JL.retagC (A := 16) (t := 500012) (u := 500002) (off := 9) [(2, _), (10, _), (12, _), (13, _), (16, _), (18, _)] [(500013, _), (2, _)] ?_
                                                      refine JL.retagC (A := 16) (t := 500013) (u := 500003) (off := 10) [(2, _), (10, _), (12, _), (13, _), (16, _), (18, _)] [(500002, _), (2, _)] ?_
                                                      refine st (h := O) ?_
                                                      refine st (h := sdA) ?_
                                                      refine st (h := O) ?_
                                                      refine nl ?_
                                                      refine bk5 (some (_, _)) (_) (k + 1) (_) (_) (by exact ⟨rfl, trivial⟩) (by exact ⟨rfl, rfl, rfl, rfl, rfl, trivial⟩) (by exact (by repeat' first | exact trivial | refine And.intro rfl ?_)) ?_ ?_
                                                      · omega
                                                      · refine ⟨by omega, by omega, ⟨by omega, by omega⟩, ⟨by omega, by omega⟩, ?_, ?_⟩
                                                        · rw [List.range_succ, List.map_append, ivs_append, ← hca, List.map_cons, List.map_nil, eA]
                                                          first
                                                            | rfl
                                                            | (rw [show ca = [] from List.eq_nil_of_length_eq_zero (by omega)]; rfl)
                                                        · rw [List.range_succ, List.map_append, ivs_append, ← hcb, List.map_cons, List.map_nil, eB]
                                                          first
                                                            | rfl
                                                            | (rw [show cb = [] from List.eq_nil_of_length_eq_zero (by omega)]; rfl)
                                                  · refine ex ?_
                                                    refine sq ?_
                                                    refine rg ?_
                                                    refine st (h := sdLN) ?_
                                                    refine so ?_
                                                    refine st (h := O) ?_
                                                    refine nl ?_
                                                    first
                                                      | (exfalso; omega)
                                                      | (obtain rfl : k = (two mp 4).toNat := by omega
                                                         subst hmk
                                                         refine rtX fun ι hV => ?_
                                                         rw [hok]
                                                         have e0 : sg2 (two hd (36 + 2 * 0)) = B 0 := (hB 0 (by omega)).symm
                                                         have e1 : sg2 (two hd (36 + 2 * 1)) = B 1 := (hB 1 (by omega)).symm
                                                         have e2 : sg2 (two hd (36 + 2 * 2)) = B 2 := (hB 2 (by omega)).symm
                                                         have e3 : sg2 (two hd (36 + 2 * 3)) = B 3 := (hB 3 (by omega)).symm
                                                         refine ⟨ι 500002, cap_o.1, ι 500003, cap_o.2, ?_, fun G hG => ⟨?_, ?_⟩⟩
                                                         · simp only [Met.v, metOf, List.length_map, List.length_range, e0, e1, e2, e3]
                                                           rfl
                                                         · exact hG.ix (List.mem_map.2 ⟨_, List.mem_cons_self, rfl⟩) hca (by simp [metOf]; omega)
                                                         · exact hG.ix (List.mem_map.2 ⟨_, List.mem_cons_of_mem _ List.mem_cons_self, rfl⟩) hcb (by simp [metOf]; omega))

end Go.Proofs.Ytfcckfiipbdnkaa.Am
