/- Contracts: badness, parameters -/
import Derived.Test.YtbeblgjibfoanaaT0
namespace Go.Proofs.Ytbeblgjibfoanaa.Am
set_option linter.unusedSimpArgs false
set_option linter.unusedVariables false
set_option maxRecDepth 100000
set_option maxHeartbeats 4000000
open Go Go.RowKit
structure Par where
  w : Int
  tol : Int
  line : Int
  twice : Int
  odd : Int
def Par.v (x : Par) : Value := .agg #[.int .i64 x.w, .int .i64 x.tol, .int .i64 x.line, .int .i64 x.twice, .int .i64 x.odd]
def Par.good (x : Par) : Bool := decide (1 ≤ x.w ∧ x.w ≤ 1073741824 ∧ 0 ≤ x.tol ∧ x.tol ≤ 10000 ∧ 0 ≤ x.line ∧ x.line ≤ 1000 ∧ 0 ≤ x.twice ∧ x.twice ≤ 1000000 ∧ 0 ≤ x.odd ∧ x.odd ≤ 1000000)
theorem sq_bd {x n : Int} (h0 : -n ≤ x) (h1 : x ≤ n) : 0 ≤ x * x ∧ x * x ≤ n * n := by
  rcases Int.le_total 0 x with h | h
  · exact ⟨Int.mul_nonneg h h, Int.mul_le_mul h1 h1 h (by omega)⟩
  · have : x * x = (-x) * (-x) := by rw [Int.neg_mul_neg]
    rw [this]; exact ⟨Int.mul_nonneg (by omega) (by omega), Int.mul_le_mul (by omega) (by omega) (by omega) (by omega)⟩
def lineD (l b p : Int) : Int :=
  if 0 ≤ min (max p (-10000)) 10000 then (min (max l 0) 1000 + min (max b 0) 10000) * (min (max l 0) 1000 + min (max b 0) 10000) + min (max p (-10000)) 10000 * min (max p (-10000)) 10000
  else if -10000 < min (max p (-10000)) 10000 then (min (max l 0) 1000 + min (max b 0) 10000) * (min (max l 0) 1000 + min (max b 0) 10000) - min (max p (-10000)) 10000 * min (max p (-10000)) 10000
  else (min (max l 0) 1000 + min (max b 0) 10000) * (min (max l 0) 1000 + min (max b 0) 10000)
theorem Line_C (F : Mem) (l b p : Int) : C0 Try.prog 57 [.int .i64 l, .int .i64 b, .int .i64 p] F (.int .i64 (lineD l b p)) := by
  have h1 := sq_bd (x := min (max l 0) 1000 + min (max b 0) 10000) (n := 11000) (by omega) (by omega)
  have h2 := sq_bd (x := min (max p (-10000)) 10000) (n := 10000) (by omega) (by omega)
  refine C.go hT Try.func57 Try.ntmps57 ?_
  (repeat' (first | refine st ?_ | refine nl ?_ | refine sq ?_ | refine rg ?_ | refine bl ?_ | refine sk ?_ | refine bk ?_ | refine bx ?_ | refine al ?_ | refine so ?_ | refine mk ?_ | refine ex ?_ | refine lb ?_ | refine cT ?_ | refine cF ?_ | refine sg ?_ | refine sp ?_ | refine su ?_ | refine gD (fun _ => ?_) (fun _ => ?_) | refine gN (fun _ => ?_) (fun _ => ?_) | refine cD (fun _ => ?_) (fun _ => ?_) | refine cN (fun _ => ?_) (fun _ => ?_)))
  all_goals (refine rt ⟨?_, rfl⟩; simp only [lineD, *, if_true, if_false])
theorem Good_C (F : Mem) (x : Par) : C0 Try.prog 34 [x.v] F (.bool x.good) := by
  obtain ⟨w, tol, line, twice, odd⟩ := x
  dsimp only [Par.v]
  refine C.go hT Try.func34 Try.ntmps34 ?_
  (repeat' (first | refine st ?_ | refine nl ?_ | refine sq ?_ | refine rg ?_ | refine bl ?_ | refine sk ?_ | refine bk ?_ | refine bx ?_ | refine al ?_ | refine so ?_ | refine mk ?_ | refine ex ?_ | refine lb ?_ | refine cT ?_ | refine cF ?_ | refine sg ?_ | refine sp ?_ | refine su ?_ | refine gD (fun _ => ?_) (fun _ => ?_) | refine gN (fun _ => ?_) (fun _ => ?_) | refine cD (fun _ => ?_) (fun _ => ?_) | refine cN (fun _ => ?_) (fun _ => ?_)))
  all_goals (refine rt ⟨?_, rfl⟩; simp only [Par.good, Value.bool.injEq, eq_comm (a := false), eq_comm (a := true), decide_eq_true_eq, decide_eq_false_iff_not, decide_eq_decide]; omega)
theorem sized_C (F : Mem) (x : Int) : C0 Try.prog 53 [.int .i64 x] F (.bool (decide (0 ≤ x ∧ x ≤ 1073741824))) := by
  refine C.go hT Try.func53 Try.ntmps53 ?_
  (repeat' (first | refine st ?_ | refine nl ?_ | refine sq ?_ | refine rg ?_ | refine bl ?_ | refine sk ?_ | refine bk ?_ | refine bx ?_ | refine al ?_ | refine so ?_ | refine mk ?_ | refine ex ?_ | refine lb ?_ | refine cT ?_ | refine cF ?_ | refine sg ?_ | refine sp ?_ | refine su ?_ | refine gD (fun _ => ?_) (fun _ => ?_) | refine gN (fun _ => ?_) (fun _ => ?_) | refine cD (fun _ => ?_) (fun _ => ?_) | refine cN (fun _ => ?_) (fun _ => ?_)))
  all_goals (refine rt ⟨?_, rfl⟩; simp only [Value.bool.injEq, eq_comm (a := false), decide_eq_true_eq, decide_eq_false_iff_not, decide_eq_decide]; omega)
theorem within_C (F : Mem) (x lo hi : Int) : C0 Try.prog 63 [.int .i64 x, .int .i64 lo, .int .i64 hi] F (.int .i64 (min (max x lo) hi)) := by
  refine C.go hT Try.func63 Try.ntmps63 ?_
  (repeat' (first | refine st ?_ | refine nl ?_ | refine sq ?_ | refine rg ?_ | refine bl ?_ | refine sk ?_ | refine bk ?_ | refine bx ?_ | refine al ?_ | refine so ?_ | refine mk ?_ | refine ex ?_ | refine lb ?_ | refine cT ?_ | refine cF ?_ | refine sg ?_ | refine sp ?_ | refine su ?_ | refine gD (fun _ => ?_) (fun _ => ?_) | refine gN (fun _ => ?_) (fun _ => ?_) | refine cD (fun _ => ?_) (fun _ => ?_) | refine cN (fun _ => ?_) (fun _ => ?_)))
  all_goals (exact rt ⟨rfl, rfl⟩)
theorem limits_C (F : Mem) : C0 Try.prog 59 [] F (.agg #[.int .i64 12, .int .i64 99, .int .i64 10000]) := by
  refine C.go hT Try.func59 Try.ntmps59 ?_
  (repeat (first | refine st ?_ | refine nl ?_ | refine sq ?_ | refine rg ?_ | refine bl ?_ | refine sk ?_ | refine bk ?_ | refine bx ?_ | refine al ?_ | refine so ?_ | refine mk ?_ | refine ex ?_ | refine lb ?_ | refine cT ?_ | refine cF ?_ | refine sg ?_ | refine sp ?_ | refine su ?_))
  exact rt ⟨rfl, rfl⟩
def moreD (a b : Int) (f g : Bool) (x : Par) : Int := (if 1 < min (max a 0) 3 - min (max b 0) 3 ∨ 1 < min (max b 0) 3 - min (max a 0) 3 then min (max x.odd 0) 1000000 else 0) + (if (f && g) = true then min (max x.twice 0) 1000000 else 0)
theorem More_C (F : Mem) (a b : Int) (f g : Bool) (x : Par) : C0 Try.prog 58 [.int .i64 a, .int .i64 b, .bool f, .bool g, x.v] F (.int .i64 (moreD a b f g x)) := by
  obtain ⟨w, tol, line, twice, odd⟩ := x
  dsimp only [Par.v]
  cases f <;> cases g <;> refine C.go hT Try.func58 Try.ntmps58 ?_
  all_goals (repeat' (first | refine st ?_ | refine nl ?_ | refine sq ?_ | refine rg ?_ | refine bl ?_ | refine sk ?_ | refine bk ?_ | refine bx ?_ | refine al ?_ | refine so ?_ | refine mk ?_ | refine ex ?_ | refine lb ?_ | refine cT ?_ | refine cF ?_ | refine sg ?_ | refine sp ?_ | refine su ?_ | refine gD (fun _ => ?_) (fun _ => ?_) | refine gN (fun _ => ?_) (fun _ => ?_) | refine cD (fun _ => ?_) (fun _ => ?_) | refine cN (fun _ => ?_) (fun _ => ?_)))
  all_goals (refine rt ⟨?_, rfl⟩; simp only [moreD, Value.int.injEq, true_and, Bool.and_self, Bool.and_true, Bool.and_false, if_true, Bool.false_eq_true, if_false]; (repeat' split) <;> omega)

end Go.Proofs.Ytbeblgjibfoanaa.Am
