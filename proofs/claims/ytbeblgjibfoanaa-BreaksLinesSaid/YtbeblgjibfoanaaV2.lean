/- Contracts: the reference's badness -/
import Derived.Test.YtbeblgjibfoanaaV1
import Derived.Test.YtbeblgjibfoanaaU7
namespace Go.Proofs.Ytbeblgjibfoanaa.Am
set_option linter.unusedSimpArgs false
set_option linter.unusedVariables false
set_option maxRecDepth 100000
set_option maxHeartbeats 4000000
open Go Go.RowKit
theorem r23Good_C (F : Mem) (x : Par) : C0 Try.prog 35 [x.v] F (.bool x.good) := by
  obtain ⟨w, tol, line, twice, odd⟩ := x
  dsimp only [Par.v]
  refine C.go hT Try.func35 Try.ntmps35 ?_
  refine sq ?_
  refine rg ?_
  refine bx ?_
  refine st (h := O) ?_
  refine nl ?_
  refine sq ?_
  refine rg ?_
  refine st (h := sdFA) ?_
  refine st (h := sdL) ?_
  iterate 2 (refine st (h := O) ?_)
  refine gD (fun g6 => ?_) (fun g6 => ?_)
  · refine sg (h := sdFA) ?_
    refine sg (h := sdL) ?_
    refine sg (h := O) ?_
    iterate 2 (refine st (h := O) ?_)
    refine gD (fun g11 => ?_) (fun g11 => ?_)
    · refine sg (h := sdFA) ?_
      refine sg (h := sdL) ?_
      refine sg (h := O) ?_
      iterate 2 (refine st (h := O) ?_)
      refine gD (fun g16 => ?_) (fun g16 => ?_)
      · refine sg (h := sdFA) ?_
        refine sg (h := sdL) ?_
        refine sg (h := O) ?_
        iterate 2 (refine st (h := O) ?_)
        refine gD (fun g21 => ?_) (fun g21 => ?_)
        · refine sg (h := sdFA) ?_
          refine sg (h := sdL) ?_
          refine sg (h := O) ?_
          iterate 2 (refine st (h := O) ?_)
          refine gD (fun g26 => ?_) (fun g26 => ?_)
          · refine sg (h := sdFA) ?_
            refine sg (h := sdL) ?_
            refine sg (h := O) ?_
            iterate 2 (refine st (h := O) ?_)
            refine gD (fun g31 => ?_) (fun g31 => ?_)
            · refine sg (h := sdFA) ?_
              refine sg (h := sdL) ?_
              refine sg (h := O) ?_
              iterate 2 (refine st (h := O) ?_)
              refine gD (fun g36 => ?_) (fun g36 => ?_)
              · refine sg (h := sdFA) ?_
                refine sg (h := sdL) ?_
                refine sg (h := O) ?_
                iterate 2 (refine st (h := O) ?_)
                refine gD (fun g41 => ?_) (fun g41 => ?_)
                · refine sg (h := sdFA) ?_
                  refine sg (h := sdL) ?_
                  refine sg (h := O) ?_
                  iterate 2 (refine st (h := O) ?_)
                  refine gD (fun g46 => ?_) (fun g46 => ?_)
                  · refine sg (h := sdFA) ?_
                    refine sg (h := sdL) ?_
                    refine sg (h := O) ?_
                    iterate 2 (refine st (h := O) ?_)
                    refine nl ?_
                    refine rt ⟨?_, rfl⟩
                    simp only [Par.good, Value.bool.injEq, eq_comm (a := false), eq_comm (a := true), decide_eq_true_eq, decide_eq_false_iff_not, decide_eq_decide]
                    omega
                  · refine sp ?_
                    iterate 2 (refine sp ?_)
                    iterate 2 (refine st (h := O) ?_)
                    refine nl ?_
                    refine rt ⟨?_, rfl⟩
                    simp only [Par.good, Value.bool.injEq, eq_comm (a := false), eq_comm (a := true), decide_eq_true_eq, decide_eq_false_iff_not, decide_eq_decide]
                    omega
                · refine sp ?_
                  iterate 2 (refine sp ?_)
                  iterate 2 (refine st (h := O) ?_)
                  iterate 3 (refine sp ?_)
                  iterate 2 (refine st (h := O) ?_)
                  refine nl ?_
                  refine rt ⟨?_, rfl⟩
                  simp only [Par.good, Value.bool.injEq, eq_comm (a := false), eq_comm (a := true), decide_eq_true_eq, decide_eq_false_iff_not, decide_eq_decide]
                  omega
              · refine sp ?_
                iterate 2 (refine sp ?_)
                iterate 2 (refine st (h := O) ?_)
                iterate 3 (refine sp ?_)
                iterate 2 (refine st (h := O) ?_)
                iterate 3 (refine sp ?_)
                iterate 2 (refine st (h := O) ?_)
                refine nl ?_
                refine rt ⟨?_, rfl⟩
                simp only [Par.good, Value.bool.injEq, eq_comm (a := false), eq_comm (a := true), decide_eq_true_eq, decide_eq_false_iff_not, decide_eq_decide]
                omega
            · refine sp ?_
              iterate 2 (refine sp ?_)
              iterate 2 (refine st (h := O) ?_)
              iterate 3 (refine sp ?_)
              iterate 2 (refine st (h := O) ?_)
              iterate 3 (refine sp ?_)
              iterate 2 (refine st (h := O) ?_)
              iterate 3 (refine sp ?_)
              iterate 2 (refine st (h := O) ?_)
              refine nl ?_
              refine rt ⟨?_, rfl⟩
              simp only [Par.good, Value.bool.injEq, eq_comm (a := false), eq_comm (a := true), decide_eq_true_eq, decide_eq_false_iff_not, decide_eq_decide]
              omega
          · refine sp ?_
            iterate 2 (refine sp ?_)
            iterate 2 (refine st (h := O) ?_)
            iterate 3 (refine sp ?_)
            iterate 2 (refine st (h := O) ?_)
            iterate 3 (refine sp ?_)
            iterate 2 (refine st (h := O) ?_)
            iterate 3 (refine sp ?_)
            iterate 2 (refine st (h := O) ?_)
            iterate 3 (refine sp ?_)
            iterate 2 (refine st (h := O) ?_)
            refine nl ?_
            refine rt ⟨?_, rfl⟩
            simp only [Par.good, Value.bool.injEq, eq_comm (a := false), eq_comm (a := true), decide_eq_true_eq, decide_eq_false_iff_not, decide_eq_decide]
            omega
        · refine sp ?_
          iterate 2 (refine sp ?_)
          iterate 2 (refine st (h := O) ?_)
          iterate 3 (refine sp ?_)
          iterate 2 (refine st (h := O) ?_)
          iterate 3 (refine sp ?_)
          iterate 2 (refine st (h := O) ?_)
          iterate 3 (refine sp ?_)
          iterate 2 (refine st (h := O) ?_)
          iterate 3 (refine sp ?_)
          iterate 2 (refine st (h := O) ?_)
          iterate 3 (refine sp ?_)
          iterate 2 (refine st (h := O) ?_)
          refine nl ?_
          refine rt ⟨?_, rfl⟩
          simp only [Par.good, Value.bool.injEq, eq_comm (a := false), eq_comm (a := true), decide_eq_true_eq, decide_eq_false_iff_not, decide_eq_decide]
          omega
      · refine sp ?_
        iterate 2 (refine sp ?_)
        iterate 2 (refine st (h := O) ?_)
        iterate 3 (refine sp ?_)
        iterate 2 (refine st (h := O) ?_)
        iterate 3 (refine sp ?_)
        iterate 2 (refine st (h := O) ?_)
        iterate 3 (refine sp ?_)
        iterate 2 (refine st (h := O) ?_)
        iterate 3 (refine sp ?_)
        iterate 2 (refine st (h := O) ?_)
        iterate 3 (refine sp ?_)
        iterate 2 (refine st (h := O) ?_)
        iterate 3 (refine sp ?_)
        iterate 2 (refine st (h := O) ?_)
        refine nl ?_
        refine rt ⟨?_, rfl⟩
        simp only [Par.good, Value.bool.injEq, eq_comm (a := false), eq_comm (a := true), decide_eq_true_eq, decide_eq_false_iff_not, decide_eq_decide]
        omega
    · refine sp ?_
      iterate 2 (refine sp ?_)
      iterate 2 (refine st (h := O) ?_)
      iterate 3 (refine sp ?_)
      iterate 2 (refine st (h := O) ?_)
      iterate 3 (refine sp ?_)
      iterate 2 (refine st (h := O) ?_)
      iterate 3 (refine sp ?_)
      iterate 2 (refine st (h := O) ?_)
      iterate 3 (refine sp ?_)
      iterate 2 (refine st (h := O) ?_)
      iterate 3 (refine sp ?_)
      iterate 2 (refine st (h := O) ?_)
      iterate 3 (refine sp ?_)
      iterate 2 (refine st (h := O) ?_)
      iterate 3 (refine sp ?_)
      iterate 2 (refine st (h := O) ?_)
      refine nl ?_
      refine rt ⟨?_, rfl⟩
      simp only [Par.good, Value.bool.injEq, eq_comm (a := false), eq_comm (a := true), decide_eq_true_eq, decide_eq_false_iff_not, decide_eq_decide]
      omega
  · refine sp ?_
    iterate 2 (refine sp ?_)
    iterate 2 (refine st (h := O) ?_)
    iterate 3 (refine sp ?_)
    iterate 2 (refine st (h := O) ?_)
    iterate 3 (refine sp ?_)
    iterate 2 (refine st (h := O) ?_)
    iterate 3 (refine sp ?_)
    iterate 2 (refine st (h := O) ?_)
    iterate 3 (refine sp ?_)
    iterate 2 (refine st (h := O) ?_)
    iterate 3 (refine sp ?_)
    iterate 2 (refine st (h := O) ?_)
    iterate 3 (refine sp ?_)
    iterate 2 (refine st (h := O) ?_)
    iterate 3 (refine sp ?_)
    iterate 2 (refine st (h := O) ?_)
    iterate 3 (refine sp ?_)
    iterate 2 (refine st (h := O) ?_)
    refine nl ?_
    refine rt ⟨?_, rfl⟩
    simp only [Par.good, Value.bool.injEq, eq_comm (a := false), eq_comm (a := true), decide_eq_true_eq, decide_eq_false_iff_not, decide_eq_decide]
    omega
theorem r23Line_C (F : Mem) (l b p : Int) : C0 Try.prog 49 [.int .i64 l, .int .i64 b, .int .i64 p] F (.int .i64 (lineD l b p)) := by
  have h1 := sq_bd (x := min (max l 0) 1000 + min (max b 0) 10000) (n := 11000) (by omega) (by omega)
  have h2 := sq_bd (x := min (max p (-10000)) 10000) (n := 10000) (by omega) (by omega)
  refine C.go hT Try.func49 Try.ntmps49 ?_
  refine sq ?_
  refine rg ?_
  refine st (h := O) ?_
  refine nl ?_
  refine sq ?_
  refine rg ?_
  refine st (h := O) ?_
  refine cl (h := by exact fun ι hV hl => within_C _ _ _ _) ?_
  refine st (h := O) ?_
  refine cl (h := by exact fun ι hV hl => within_C _ _ _ _) ?_
  refine st (h := O) ?_
  refine cl (h := by exact fun ι hV hl => within_C _ _ _ _) ?_
  iterate 3 (refine st (h := O) ?_)
  refine nl ?_
  refine sq ?_
  refine rg ?_
  iterate 2 (refine st (h := O) ?_)
  refine st (h := sdA) ?_
  iterate 2 (refine st (h := O) ?_)
  refine st (h := sdA) ?_
  refine st (h := sdM) ?_
  refine st (h := O) ?_
  refine nl ?_
  iterate 2 (refine sq ?_)
  refine rg ?_
  iterate 2 (refine st (h := O) ?_)
  refine nl ?_
  refine cD (fun c0 => ?_) (fun c0 => ?_)
  · refine sq ?_
    refine rg ?_
    iterate 3 (refine st (h := O) ?_)
    refine st (h := sdM) ?_
    refine st (h := sdA) ?_
    refine st (h := O) ?_
    refine nl ?_
    refine rt ⟨?_, rfl⟩
    simp only [lineD, *, if_true, if_false]
  · refine sk ?_
    iterate 2 (refine sq ?_)
    refine rg ?_
    iterate 2 (refine st (h := O) ?_)
    refine nl ?_
    refine cD (fun c1 => ?_) (fun c1 => ?_)
    · refine sq ?_
      refine rg ?_
      iterate 3 (refine st (h := O) ?_)
      refine st (h := sdM) ?_
      refine st (h := sdS) ?_
      refine st (h := O) ?_
      refine nl ?_
      refine rt ⟨?_, rfl⟩
      simp only [lineD, *, if_true, if_false]
    · refine sk ?_
      refine sq ?_
      refine rg ?_
      iterate 2 (refine st (h := O) ?_)
      refine nl ?_
      refine rt ⟨?_, rfl⟩
      simp only [lineD, *, if_true, if_false]
theorem r23More_C (F : Mem) (a b : Int) (f g : Bool) (x : Par) : C0 Try.prog 51 [.int .i64 a, .int .i64 b, .bool f, .bool g, x.v] F (.int .i64 (moreD a b f g x)) := by
  obtain ⟨w, tol, line, twice, odd⟩ := x
  dsimp only [Par.v]
  refine C.go hT Try.func51 Try.ntmps51 ?_
  refine sq ?_
  refine rg ?_
  refine bx ?_
  refine st (h := O) ?_
  refine nl ?_
  refine sq ?_
  refine rg ?_
  refine st (h := O) ?_
  refine cl (h := by exact fun ι hV hl => within_C _ _ _ _) ?_
  refine st (h := O) ?_
  refine cl (h := by exact fun ι hV hl => within_C _ _ _ _) ?_
  iterate 2 (refine st (h := O) ?_)
  refine nl ?_
  refine sq ?_
  refine rg ?_
  refine st (h := O) ?_
  refine nl ?_
  iterate 2 (refine sq ?_)
  refine rg ?_
  iterate 2 (refine st (h := O) ?_)
  refine st (h := sdS) ?_
  iterate 2 (refine st (h := O) ?_)
  refine gD (fun g20 => ?_) (fun g20 => ?_)
  · refine sp ?_
    iterate 3 (refine sp ?_)
    refine st (h := O) ?_
    refine nl ?_
    refine cT ?_
    refine rg ?_
    refine st (h := O) ?_
    refine st (h := sdFA) ?_
    refine st (h := sdL) ?_
    refine cl (h := by exact fun ι hV hl => within_C _ _ _ _) ?_
    refine st (h := sdA) ?_
    refine st (h := O) ?_
    refine nl ?_
    iterate 2 (refine sq ?_)
    refine rg ?_
    iterate 2 (refine st (h := O) ?_)
    refine gB (fun g32 => ?_) (fun g32 => ?_)
    · refine sg (h := O) ?_
      refine st (h := O) ?_
      refine nl ?_
      refine cB (fun c1 => ?_) (fun c1 => ?_)
      · refine rg ?_
        refine st (h := O) ?_
        refine st (h := sdFA) ?_
        refine st (h := sdL) ?_
        refine cl (h := by exact fun ι hV hl => within_C _ _ _ _) ?_
        refine st (h := sdA) ?_
        refine st (h := O) ?_
        refine nl ?_
        refine sq ?_
        refine rg ?_
        iterate 2 (refine st (h := O) ?_)
        refine nl ?_
        refine rt ⟨?_, rfl⟩
        cases f <;> cases g <;> simp only [moreD, Value.int.injEq, true_and, Bool.and_self, Bool.and_true, Bool.and_false, if_true, Bool.false_eq_true, if_false] <;> (repeat' split) <;> first | omega | simp_all
      · refine sk ?_
        refine sq ?_
        refine rg ?_
        iterate 2 (refine st (h := O) ?_)
        refine nl ?_
        refine rt ⟨?_, rfl⟩
        cases f <;> cases g <;> simp only [moreD, Value.int.injEq, true_and, Bool.and_self, Bool.and_true, Bool.and_false, if_true, Bool.false_eq_true, if_false] <;> (repeat' split) <;> first | omega | simp_all
    · refine sp ?_
      refine st (h := O) ?_
      refine nl ?_
      refine cF ?_
      refine sk ?_
      refine sq ?_
      refine rg ?_
      iterate 2 (refine st (h := O) ?_)
      refine nl ?_
      refine rt ⟨?_, rfl⟩
      cases f <;> cases g <;> simp only [moreD, Value.int.injEq, true_and, Bool.and_self, Bool.and_true, Bool.and_false, if_true, Bool.false_eq_true, if_false] <;> (repeat' split) <;> first | omega | simp_all
  · refine sg (h := O) ?_
    refine sg (h := O) ?_
    refine sg (h := sdS) ?_
    refine sg (h := O) ?_
    refine st (h := O) ?_
    refine nl ?_
    refine cD (fun c0 => ?_) (fun c0 => ?_)
    · refine rg ?_
      refine st (h := O) ?_
      refine st (h := sdFA) ?_
      refine st (h := sdL) ?_
      refine cl (h := by exact fun ι hV hl => within_C _ _ _ _) ?_
      refine st (h := sdA) ?_
      refine st (h := O) ?_
      refine nl ?_
      iterate 2 (refine sq ?_)
      refine rg ?_
      iterate 2 (refine st (h := O) ?_)
      refine gB (fun g32 => ?_) (fun g32 => ?_)
      · refine sg (h := O) ?_
        refine st (h := O) ?_
        refine nl ?_
        refine cB (fun c1 => ?_) (fun c1 => ?_)
        · refine rg ?_
          refine st (h := O) ?_
          refine st (h := sdFA) ?_
          refine st (h := sdL) ?_
          refine cl (h := by exact fun ι hV hl => within_C _ _ _ _) ?_
          refine st (h := sdA) ?_
          refine st (h := O) ?_
          refine nl ?_
          refine sq ?_
          refine rg ?_
          iterate 2 (refine st (h := O) ?_)
          refine nl ?_
          refine rt ⟨?_, rfl⟩
          cases f <;> cases g <;> simp only [moreD, Value.int.injEq, true_and, Bool.and_self, Bool.and_true, Bool.and_false, if_true, Bool.false_eq_true, if_false] <;> (repeat' split) <;> first | omega | simp_all
        · refine sk ?_
          refine sq ?_
          refine rg ?_
          iterate 2 (refine st (h := O) ?_)
          refine nl ?_
          refine rt ⟨?_, rfl⟩
          cases f <;> cases g <;> simp only [moreD, Value.int.injEq, true_and, Bool.and_self, Bool.and_true, Bool.and_false, if_true, Bool.false_eq_true, if_false] <;> (repeat' split) <;> first | omega | simp_all
      · refine sp ?_
        refine st (h := O) ?_
        refine nl ?_
        refine cF ?_
        refine sk ?_
        refine sq ?_
        refine rg ?_
        iterate 2 (refine st (h := O) ?_)
        refine nl ?_
        refine rt ⟨?_, rfl⟩
        cases f <;> cases g <;> simp only [moreD, Value.int.injEq, true_and, Bool.and_self, Bool.and_true, Bool.and_false, if_true, Bool.false_eq_true, if_false] <;> (repeat' split) <;> first | omega | simp_all
    · refine sk ?_
      iterate 2 (refine sq ?_)
      refine rg ?_
      iterate 2 (refine st (h := O) ?_)
      refine gB (fun g32 => ?_) (fun g32 => ?_)
      · refine sg (h := O) ?_
        refine st (h := O) ?_
        refine nl ?_
        refine cB (fun c1 => ?_) (fun c1 => ?_)
        · refine rg ?_
          refine st (h := O) ?_
          refine st (h := sdFA) ?_
          refine st (h := sdL) ?_
          refine cl (h := by exact fun ι hV hl => within_C _ _ _ _) ?_
          refine st (h := sdA) ?_
          refine st (h := O) ?_
          refine nl ?_
          refine sq ?_
          refine rg ?_
          iterate 2 (refine st (h := O) ?_)
          refine nl ?_
          refine rt ⟨?_, rfl⟩
          cases f <;> cases g <;> simp only [moreD, Value.int.injEq, true_and, Bool.and_self, Bool.and_true, Bool.and_false, if_true, Bool.false_eq_true, if_false] <;> (repeat' split) <;> first | omega | simp_all
        · refine sk ?_
          refine sq ?_
          refine rg ?_
          iterate 2 (refine st (h := O) ?_)
          refine nl ?_
          refine rt ⟨?_, rfl⟩
          cases f <;> cases g <;> simp only [moreD, Value.int.injEq, true_and, Bool.and_self, Bool.and_true, Bool.and_false, if_true, Bool.false_eq_true, if_false] <;> (repeat' split) <;> first | omega | simp_all
      · refine sp ?_
        refine st (h := O) ?_
        refine nl ?_
        refine cF ?_
        refine sk ?_
        refine sq ?_
        refine rg ?_
        iterate 2 (refine st (h := O) ?_)
        refine nl ?_
        refine rt ⟨?_, rfl⟩
        cases f <;> cases g <;> simp only [moreD, Value.int.injEq, true_and, Bool.and_self, Bool.and_true, Bool.and_false, if_true, Bool.false_eq_true, if_false] <;> (repeat' split) <;> first | omega | simp_all
theorem r23Bad_C (F : Mem) (y z : Int) : C0 Try.prog 60 [.int .i64 y, .int .i64 z] F (.int .i64 (badD y z)) := by
  unfold badD
  have hy : 0 ≤ min (max y 0) 1099511627776 ∧ min (max y 0) 1099511627776 ≤ 1099511627776 := by omega
  have hz : 0 ≤ min (max z 0) 1099511627776 ∧ min (max z 0) 1099511627776 ≤ 1099511627776 := by omega
  refine C.go hT Try.func60 Try.ntmps60 ?_
  refine sq ?_
  refine rg ?_
  refine st (h := O) ?_
  refine nl ?_
  refine sq ?_
  refine rg ?_
  refine st (h := O) ?_
  refine cl (h := by exact fun ι hV hl => within_C _ _ _ _) ?_
  refine st (h := O) ?_
  refine cl (h := by exact fun ι hV hl => within_C _ _ _ _) ?_
  iterate 2 (refine st (h := O) ?_)
  refine nl ?_
  iterate 2 (refine sq ?_)
  generalize min (max y 0) 1099511627776 = y' at *
  generalize min (max z 0) 1099511627776 = z' at *
  refine rg ?_
  iterate 2 (refine st (h := O) ?_)
  refine nl ?_
  refine cD (fun c0 => ?_) (fun c0 => ?_)
  · refine sq ?_
    refine rg ?_
    refine st (h := O) ?_
    refine nl ?_
    refine rt ⟨?_, rfl⟩
    rw [if_pos c0]
  · refine sk ?_
    iterate 2 (refine sq ?_)
    refine rg ?_
    iterate 2 (refine st (h := O) ?_)
    refine nl ?_
    refine cD (fun c1 => ?_) (fun c1 => ?_)
    · refine sq ?_
      refine rg ?_
      refine st (h := O) ?_
      refine nl ?_
      refine rt ⟨?_, rfl⟩
      rw [if_neg c0, if_pos c1]
    · have hq0 : 0 ≤ 297 * y' / z' := Int.ediv_nonneg (by omega) (by omega)
      have hfl : floorS 297 y' z' = keepS (297 * y' / z') := by rw [floorS, if_neg (by omega)]
      refine sk ?_
      refine sq ?_
      refine rg ?_
      iterate 2 (refine st (h := O) ?_)
      refine cl (h := by exact fun ι hV hl => r01Floor_C _ 297 y' z' (by unfold i64ok; omega) (by unfold i64ok; omega) (by unfold i64ok; omega)) ?_
      rw [hfl]
      generalize 297 * y' / z' = q at *
      by_cases hq : q ≤ 1099511627776
      · rw [show keepS q = (q, true) from by rw [keepS, if_pos (by omega)]]
        iterate 5 (refine st (h := O) ?_)
        refine nl ?_
        iterate 2 (refine sq ?_)
        refine rg ?_
        iterate 3 (refine st (h := O) ?_)
        refine gB (fun g23 => ?_) (fun g23 => ?_)
        · refine sp ?_
          refine sp ?_
          refine st (h := O) ?_
          refine nl ?_
          refine cT ?_
          refine sq ?_
          refine rg ?_
          refine st (h := O) ?_
          refine nl ?_
          first
            | (exfalso; simp at g23; done)
            | exact rt ⟨by rw [if_neg c0, if_neg c1, if_pos (by omega)], rfl⟩
        · refine sg (h := O) ?_
          refine sg (h := O) ?_
          refine st (h := O) ?_
          refine nl ?_
          refine cD (fun c2 => ?_) (fun c2 => ?_)
          · refine sq ?_
            refine rg ?_
            refine st (h := O) ?_
            refine nl ?_
            refine rt ⟨?_, rfl⟩
            rw [if_neg c0, if_neg c1, if_pos (by omega)]
          · have hc3 : 0 ≤ q ∧ q ≤ 1290 := by first | omega | (exfalso; simp at g23; done)
            have := cube_bd hq0 hc3.2
            refine sk ?_
            refine sq ?_
            refine rg ?_
            iterate 2 (refine st (h := O) ?_)
            refine st (h := sdM) ?_
            refine st (h := O) ?_
            refine st (h := sdM) ?_
            refine st (h := sdA) ?_
            refine st (h := sdQ) ?_
            refine st (h := O) ?_
            refine nl ?_
            first
              | (exfalso; simp at g23; done)
              | exact rt ⟨by rw [if_neg c0, if_neg c1, if_neg (by omega)], rfl⟩
      · rw [show keepS q = (0, false) from by rw [keepS, if_neg (by omega)]]
        iterate 5 (refine st (h := O) ?_)
        refine nl ?_
        iterate 2 (refine sq ?_)
        refine rg ?_
        iterate 3 (refine st (h := O) ?_)
        refine gB (fun g23 => ?_) (fun g23 => ?_)
        · refine sp ?_
          refine sp ?_
          refine st (h := O) ?_
          refine nl ?_
          refine cT ?_
          refine sq ?_
          refine rg ?_
          refine st (h := O) ?_
          refine nl ?_
          first
            | (exfalso; simp at g23; done)
            | exact rt ⟨by rw [if_neg c0, if_neg c1, if_pos (by omega)], rfl⟩
        · refine sg (h := O) ?_
          refine sg (h := O) ?_
          refine st (h := O) ?_
          refine nl ?_
          refine cD (fun c2 => ?_) (fun c2 => ?_)
          · refine sq ?_
            refine rg ?_
            refine st (h := O) ?_
            refine nl ?_
            refine rt ⟨?_, rfl⟩
            rw [if_neg c0, if_neg c1, if_pos (by omega)]
          · have hc3 : 0 ≤ q ∧ q ≤ 1290 := by first | omega | (exfalso; simp at g23; done)
            have := cube_bd hq0 hc3.2
            refine sk ?_
            refine sq ?_
            refine rg ?_
            iterate 2 (refine st (h := O) ?_)
            refine st (h := sdM) ?_
            refine st (h := O) ?_
            refine st (h := sdM) ?_
            refine st (h := sdA) ?_
            refine st (h := sdQ) ?_
            refine st (h := O) ?_
            refine nl ?_
            first
              | (exfalso; simp at g23; done)
              | exact rt ⟨by rw [if_neg c0, if_neg c1, if_neg (by omega)], rfl⟩
theorem r23Class_C (F : Mem) (y z : Int) (f : Bool) : C0 Try.prog 61 [.int .i64 y, .int .i64 z, .bool f] F (.int .i64 (classD y z f)) := by
  refine C.go hT Try.func61 Try.ntmps61 ?_
  refine sq ?_
  refine rg ?_
  refine st (h := O) ?_
  refine nl ?_
  refine sq ?_
  refine rg ?_
  iterate 2 (refine st (h := O) ?_)
  refine cl (h := by exact fun ι hV hl => r23Bad_C _ _ _) ?_
  refine st (h := O) ?_
  refine nl ?_
  refine sq ?_
  refine bl ?_
  refine sq ?_
  refine rg ?_
  iterate 3 (refine st (h := O) ?_)
  refine nl ?_
  refine cD (fun c0 => ?_) (fun c0 => ?_)
  · refine sq ?_
    refine rg ?_
    refine st (h := O) ?_
    refine nl ?_
    refine rt ⟨?_, rfl⟩
    simp only [classD, *, if_true, if_false, Bool.false_eq_true]
  · refine sq ?_
    refine rg ?_
    iterate 2 (refine st (h := O) ?_)
    refine nl ?_
    refine cB (fun c1 => ?_) (fun c1 => ?_)
    · refine sq ?_
      refine rg ?_
      refine st (h := O) ?_
      refine nl ?_
      refine rt ⟨?_, rfl⟩
      simp only [classD, *, if_true, if_false, Bool.false_eq_true]
    · refine sq ?_
      refine rg ?_
      iterate 3 (refine st (h := O) ?_)
      refine nl ?_
      refine cD (fun c2 => ?_) (fun c2 => ?_)
      · refine sq ?_
        refine rg ?_
        refine st (h := O) ?_
        refine nl ?_
        refine rt ⟨?_, rfl⟩
        simp only [classD, *, if_true, if_false, Bool.false_eq_true]
      · refine sk ?_
        refine bk ?_
        refine sq ?_
        refine rg ?_
        refine st (h := O) ?_
        refine nl ?_
        refine rt ⟨?_, rfl⟩
        simp only [classD, *, if_true, if_false, Bool.false_eq_true]

end Go.Proofs.Ytbeblgjibfoanaa.Am
