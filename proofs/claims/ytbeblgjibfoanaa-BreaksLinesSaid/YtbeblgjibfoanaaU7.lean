/- Contracts: badness, what a line costs -/
import Derived.Test.YtbeblgjibfoanaaU6
namespace Go.Proofs.Ytbeblgjibfoanaa.Am
set_option linter.unusedSimpArgs false
set_option linter.unusedVariables false
set_option maxRecDepth 100000
set_option maxHeartbeats 4000000
open Go Go.RowKit
def badD (y z : Int) : Int :=
  if min (max y 0) 1099511627776 = 0 then 0 else if min (max z 0) 1099511627776 = 0 then 10000
  else if 1290 < 297 * min (max y 0) 1099511627776 / min (max z 0) 1099511627776 then 10000
  else (297 * min (max y 0) 1099511627776 / min (max z 0) 1099511627776 * (297 * min (max y 0) 1099511627776 / min (max z 0) 1099511627776) * (297 * min (max y 0) 1099511627776 / min (max z 0) 1099511627776) + 131072) / 262144
theorem cube_bd {q : Int} (h0 : 0 ≤ q) (h1 : q ≤ 1290) : (0 ≤ q * q ∧ q * q ≤ 1664100) ∧ 0 ≤ q * q * q ∧ q * q * q ≤ 2146689000 := by
  have a : 0 ≤ q * q := Int.mul_nonneg h0 h0
  have b : q * q ≤ 1290 * 1290 := Int.mul_le_mul h1 h1 h0 (by omega)
  exact ⟨⟨a, by omega⟩, Int.mul_nonneg a h0, by have := Int.mul_le_mul b h1 h0 (by omega); omega⟩
theorem Bad_C (F : Mem) (y z : Int) : C0 Try.prog 55 [.int .i64 y, .int .i64 z] F (.int .i64 (badD y z)) := by
  refine C.go hT Try.func55 Try.ntmps55 ?_
  unfold badD
  have hy : 0 ≤ min (max y 0) 1099511627776 ∧ min (max y 0) 1099511627776 ≤ 1099511627776 := by omega
  have hz : 0 ≤ min (max z 0) 1099511627776 ∧ min (max z 0) 1099511627776 ≤ 1099511627776 := by omega
  (repeat (first | refine st ?_ | refine nl ?_ | refine sq ?_ | refine rg ?_ | refine bl ?_ | refine sk ?_ | refine bk ?_ | refine bx ?_ | refine al ?_ | refine so ?_ | refine mk ?_ | refine ex ?_ | refine lb ?_ | refine cT ?_ | refine cF ?_ | refine sg ?_ | refine sp ?_ | refine su ?_))
  generalize min (max y 0) 1099511627776 = y' at *
  generalize min (max z 0) 1099511627776 = z' at *
  refine cD (fun h0 => ?_) (fun h0 => ?_)
  · (repeat (first | refine st ?_ | refine nl ?_ | refine sq ?_ | refine rg ?_ | refine bl ?_ | refine sk ?_ | refine bk ?_ | refine bx ?_ | refine al ?_ | refine so ?_ | refine mk ?_ | refine ex ?_ | refine lb ?_ | refine cT ?_ | refine cF ?_ | refine sg ?_ | refine sp ?_ | refine su ?_))
    refine rt ⟨?_, rfl⟩
    rw [if_pos h0]
  · rw [if_neg h0]
    (repeat (first | refine st ?_ | refine nl ?_ | refine sq ?_ | refine rg ?_ | refine bl ?_ | refine sk ?_ | refine bk ?_ | refine bx ?_ | refine al ?_ | refine so ?_ | refine mk ?_ | refine ex ?_ | refine lb ?_ | refine cT ?_ | refine cF ?_ | refine sg ?_ | refine sp ?_ | refine su ?_))
    refine cD (fun h1 => ?_) (fun h1 => ?_)
    · (repeat (first | refine st ?_ | refine nl ?_ | refine sq ?_ | refine rg ?_ | refine bl ?_ | refine sk ?_ | refine bk ?_ | refine bx ?_ | refine al ?_ | refine so ?_ | refine mk ?_ | refine ex ?_ | refine lb ?_ | refine cT ?_ | refine cF ?_ | refine sg ?_ | refine sp ?_ | refine su ?_))
      refine rt ⟨?_, rfl⟩
      rw [if_pos h1]
    · rw [if_neg h1]
      have hq0 : 0 ≤ 297 * y' / z' := Int.ediv_nonneg (by omega) (by omega)
      (repeat (first | refine st ?_ | refine nl ?_ | refine sq ?_ | refine rg ?_ | refine bl ?_ | refine sk ?_ | refine bk ?_ | refine bx ?_ | refine al ?_ | refine so ?_ | refine mk ?_ | refine ex ?_ | refine lb ?_ | refine cT ?_ | refine cF ?_ | refine sg ?_ | refine sp ?_ | refine su ?_))
      generalize 297 * y' / z' = q at *
      refine cD (fun h2 => ?_) (fun h2 => ?_)
      · (repeat (first | refine st ?_ | refine nl ?_ | refine sq ?_ | refine rg ?_ | refine bl ?_ | refine sk ?_ | refine bk ?_ | refine bx ?_ | refine al ?_ | refine so ?_ | refine mk ?_ | refine ex ?_ | refine lb ?_ | refine cT ?_ | refine cF ?_ | refine sg ?_ | refine sp ?_ | refine su ?_))
        refine rt ⟨?_, rfl⟩
        rw [if_pos h2]
      · have := cube_bd hq0 (by omega)
        rw [if_neg h2]
        (repeat (first | refine st ?_ | refine nl ?_ | refine sq ?_ | refine rg ?_ | refine bl ?_ | refine sk ?_ | refine bk ?_ | refine bx ?_ | refine al ?_ | refine so ?_ | refine mk ?_ | refine ex ?_ | refine lb ?_ | refine cT ?_ | refine cF ?_ | refine sg ?_ | refine sp ?_ | refine su ?_ | refine st (h := SD.shrK rfl rfl (by omega)) ?_))
        refine rt ⟨?_, rfl⟩
        rw [Int.fdiv_eq_ediv_of_nonneg _ (by decide)]; rfl
def classD (y z : Int) (f : Bool) : Int := if badD y z ≤ 12 then 1 else if f = true then 0 else if badD y z ≤ 99 then 2 else 3
theorem Class_C (F : Mem) (y z : Int) (f : Bool) : C0 Try.prog 40 [.int .i64 y, .int .i64 z, .bool f] F (.int .i64 (classD y z f)) := by
  refine C.go hT Try.func40 Try.ntmps40 ?_
  (repeat' (first | refine st ?_ | refine nl ?_ | refine sq ?_ | refine rg ?_ | refine bl ?_ | refine sk ?_ | refine bk ?_ | refine bx ?_ | refine al ?_ | refine so ?_ | refine mk ?_ | refine ex ?_ | refine lb ?_ | refine cT ?_ | refine cF ?_ | refine sg ?_ | refine sp ?_ | refine su ?_ | refine gD (fun _ => ?_) (fun _ => ?_) | refine gN (fun _ => ?_) (fun _ => ?_) | refine cD (fun _ => ?_) (fun _ => ?_) | refine cN (fun _ => ?_) (fun _ => ?_) | refine cl ?_ (h := by exact fun _ _ _ => limits_C _) | refine cl ?_ (h := by exact fun _ _ _ => Bad_C _ _ _) | refine cB (fun _ => ?_) (fun _ => ?_)))
  all_goals (refine rt ⟨?_, rfl⟩; simp only [classD, *, if_true, if_false, Bool.false_eq_true])
def costA (l : List Item) (a : Int) : Int := if 0 ≤ a then costB (at_ l a.toNat) else 0
def flagA (l : List Item) (a : Int) : Bool := decide (0 ≤ a) && flagB (at_ l a.toNat)
theorem cost_C (F : Mem) (p : Value) (l : List Item) (a : Int) (hp : RPara F p l) (ha : a < l.length) : C0 Try.prog 56 [p, .int .i64 a] F (.tuple #[.int .i64 (costA l a), .bool (flagA l a)]) := by
  obtain ⟨pb, po, lb, lo, lc, wb, wo, wc, yb, yo, yc, zb, zo, zc, bb, bo, bc, fb, fo, fc, rfl, ⟨h1, h2, h3, h4, h5, h6⟩, h7, h8⟩ := hp
  clear h2 h3 h4 h5 h6 h8
  rcases h7.cases with ⟨lb', lo', lc', e1, _, hr⟩ | ⟨e1, _⟩
  · simp only [Value.slice.injEq, Option.some.injEq, Addr.mk.injEq, and_true, true_and] at e1
    obtain ⟨⟨rfl, rfl⟩, rfl⟩ := e1
    refine C.go hT Try.func56 Try.ntmps56 ?_
    (repeat (first | refine st ?_ | refine nl ?_ | refine sq ?_ | refine rg ?_ | refine bl ?_ | refine sk ?_ | refine bk ?_ | refine bx ?_ | refine al ?_ | refine so ?_ | refine mk ?_ | refine ex ?_ | refine lb ?_ | refine cT ?_ | refine cF ?_ | refine sg ?_ | refine sp ?_ | refine su ?_))
    refine gD (fun h0 => ?_) (fun h0 => ?_)
    · (repeat (first | refine st ?_ | refine nl ?_ | refine sq ?_ | refine rg ?_ | refine bl ?_ | refine sk ?_ | refine bk ?_ | refine bx ?_ | refine al ?_ | refine so ?_ | refine mk ?_ | refine ex ?_ | refine lb ?_ | refine cT ?_ | refine cF ?_ | refine sg ?_ | refine sp ?_ | refine su ?_))
      refine rt ⟨?_, rfl⟩
      have : ¬ 0 ≤ a := by omega
      simp [costA, flagA, this]
    · have h0' : 0 ≤ a := by omega
      obtain ⟨r0, r1, r2, r3, r4, r5, _⟩ := hr a.toNat (by omega)
      clear hr h7
      simp only [costA, flagA, if_pos h0', decide_eq_true h0', Bool.true_and, costB, flagB]
      generalize at_ l a.toNat = x at *
      (repeat (first | refine st ?_ | refine nl ?_ | refine sq ?_ | refine rg ?_ | refine bl ?_ | refine sk ?_ | refine bk ?_ | refine bx ?_ | refine al ?_ | refine so ?_ | refine mk ?_ | refine ex ?_ | refine lb ?_ | refine cT ?_ | refine cF ?_ | refine sg ?_ | refine sp ?_ | refine su ?_))
      refine cN (fun h3 => ?_) (fun h3 => ?_)
      · (repeat (first | refine st ?_ | refine nl ?_ | refine sq ?_ | refine rg ?_ | refine bl ?_ | refine sk ?_ | refine bk ?_ | refine bx ?_ | refine al ?_ | refine so ?_ | refine mk ?_ | refine ex ?_ | refine lb ?_ | refine cT ?_ | refine cF ?_ | refine sg ?_ | refine sp ?_ | refine su ?_))
        refine rt ⟨?_, rfl⟩
        simp [h3]
      · (repeat (first | refine st ?_ | refine nl ?_ | refine sq ?_ | refine rg ?_ | refine bl ?_ | refine sk ?_ | refine bk ?_ | refine bx ?_ | refine al ?_ | refine so ?_ | refine mk ?_ | refine ex ?_ | refine lb ?_ | refine cT ?_ | refine cF ?_ | refine sg ?_ | refine sp ?_ | refine su ?_))
        refine dr 18 [] [0, 1, 2, 3, 4, 5, 6, 7, 8, 9, 10, 11, 12, 13, 14, 15, 16, 17] ?_
        (repeat (first | refine dt ?_ | refine dg ?_ | refine dp ?_ | refine du ?_ | refine dq ?_ | refine dqg ?_ | refine dqp ?_ | refine dqu ?_ | refine dso ?_ | refine dal ?_ | refine dmk ?_ | refine dbx ?_ | refine dv ?_ | refine dpe ?_ | refine dn ?_ | refine st ?_ | refine nl ?_ | refine sq ?_ | refine rg ?_ | refine bl ?_ | refine sk ?_ | refine bk ?_ | refine bx ?_ | refine al ?_ | refine so ?_ | refine mk ?_ | refine ex ?_ | refine lb ?_ | refine cT ?_ | refine cF ?_ | refine sg ?_ | refine sp ?_ | refine su ?_))
        refine rt ⟨?_, rfl⟩
        simp [h3]
  · simp at e1
/-- what a line costs: its badness, its class, the class before it, where it begins and ends -/
def demD (l : List Item) (x : Par) (bad cls prev a b : Int) : Int := lineD x.line bad (costA l b) + moreD prev cls (flagA l a) (flagA l b) x
theorem lineD_bd (l b p : Int) : -100000000 ≤ lineD l b p ∧ lineD l b p ≤ 221000000 := by
  have h1 := sq_bd (x := min (max l 0) 1000 + min (max b 0) 10000) (n := 11000) (by omega) (by omega)
  have h2 := sq_bd (x := min (max p (-10000)) 10000) (n := 10000) (by omega) (by omega)
  unfold lineD
  (repeat' split) <;> omega
theorem moreD_bd (a b : Int) (f g : Bool) (x : Par) : 0 ≤ moreD a b f g x ∧ moreD a b f g x ≤ 2000000 := by
  unfold moreD
  (repeat' split) <;> omega
theorem demerits_C (F : Mem) (p : Value) (l : List Item) (w y z bad cls prev a b : Int) (fits : Bool) (x : Par) (hp : RPara F p l) (ha : a < l.length) (hb : b < l.length) : C0 Try.prog 39 [p, lineV w y z bad cls fits, .int .i64 prev, .int .i64 a, .int .i64 b, x.v] F (.int .i64 (demD l x bad cls prev a b)) := by
  have hl := lineD_bd x.line bad (costA l b)
  have hm := moreD_bd prev cls (flagA l a) (flagA l b) x
  unfold demD
  obtain ⟨pb, po, lb, lo, lc, wb, wo, wc, yb, yo, yc, zb, zo, zc, bb, bo, bc, fb, fo, fc, rfl, hp2⟩ := id hp
  clear hp2
  generalize hx : x = x' at *
  obtain ⟨xw, tol, line, twice, odd⟩ := x
  subst hx
  dsimp only [Par.v, lineV] at *
  refine C.go hT Try.func39 Try.ntmps39 ?_
  (repeat (first | refine st ?_ | refine nl ?_ | refine sq ?_ | refine rg ?_ | refine bl ?_ | refine sk ?_ | refine bk ?_ | refine bx ?_ | refine al ?_ | refine so ?_ | refine mk ?_ | refine ex ?_ | refine lb ?_ | refine cT ?_ | refine cF ?_ | refine sg ?_ | refine sp ?_ | refine su ?_ | refine cl ?_ (h := by exact fun _ _ hl => cost_C _ _ l _ (hp.le hl) (by assumption))))
  refine dr 15 [7, 11] [0, 1, 2, 3, 4, 6, 7, 8, 9, 10, 11, 1005, 1012, 13, 14] ?_
  (repeat (first | refine dt ?_ | refine dg ?_ | refine dp ?_ | refine du ?_ | refine dq ?_ | refine dqg ?_ | refine dqp ?_ | refine dqu ?_ | refine dso ?_ | refine dal ?_ | refine dmk ?_ | refine dbx ?_ | refine dv ?_ | refine dpe ?_ | refine dn ?_))
  refine dcl ?_ (h := by exact fun _ _ _ => Line_C _ _ _ _)
  (repeat (first | refine dt ?_ | refine dg ?_ | refine dp ?_ | refine du ?_ | refine dq ?_ | refine dqg ?_ | refine dqp ?_ | refine dqu ?_ | refine dso ?_ | refine dal ?_ | refine dmk ?_ | refine dbx ?_ | refine dv ?_ | refine dpe ?_ | refine dn ?_))
  refine dcl ?_ (h := by exact fun _ _ _ => More_C _ _ _ _ _ ⟨xw, tol, line, twice, odd⟩)
  (repeat (first | refine dt ?_ | refine dg ?_ | refine dp ?_ | refine du ?_ | refine dq ?_ | refine dqg ?_ | refine dqp ?_ | refine dqu ?_ | refine dso ?_ | refine dal ?_ | refine dmk ?_ | refine dbx ?_ | refine dv ?_ | refine dpe ?_ | refine dn ?_ | refine st ?_ | refine nl ?_ | refine sq ?_ | refine rg ?_ | refine bl ?_ | refine sk ?_ | refine bk ?_ | refine bx ?_ | refine al ?_ | refine so ?_ | refine mk ?_ | refine ex ?_ | refine lb ?_ | refine cT ?_ | refine cF ?_ | refine sg ?_ | refine sp ?_ | refine su ?_))
  exact rt ⟨rfl, rfl⟩

end Go.Proofs.Ytbeblgjibfoanaa.Am
