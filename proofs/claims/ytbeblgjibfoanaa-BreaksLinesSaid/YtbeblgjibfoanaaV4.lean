/- Contracts: the reference's lines, ways -/
import Derived.Test.YtbeblgjibfoanaaV3
import Derived.Test.YtbeblgjibfoanaaU11
namespace Go.Proofs.Ytbeblgjibfoanaa.Am
set_option linter.unusedSimpArgs false
set_option linter.unusedVariables false
set_option maxRecDepth 100000
set_option maxHeartbeats 4000000
open Go Go.RowKit
theorem R24Legal_C (F : Mem) (v : Value) (l : List Item) (i : Int) (hv : RItems F v l) : C0 Try.prog 27 [v, .int .i64 i] F (.bool (goodL l && legalB l i)) := by
  rcases hv.forms with ⟨vb, vo, vc, rfl⟩ | ⟨rfl, rfl⟩
  all_goals
    refine C.go hT Try.func27 Try.ntmps27 ?_
    refine sq ?_
    refine rg ?_
    refine st (h := O) ?_
    refine nl ?_
    refine sq ?_
    refine rg ?_
    refine st (h := O) ?_
    refine cl (h := by exact fun ι hV hl => RGood_C _ _ _ (hv.le hl)) ?_
    refine st (h := O) ?_
    refine gB (fun g7 => ?_) (fun g7 => ?_)
    · refine sg (h := O) ?_
      refine sg (h := O) ?_
      refine clg (h := by exact fun ι hV hl => RLegal_C _ _ _ _ (hv.le hl)) ?_
      iterate 2 (refine st (h := O) ?_)
      refine nl ?_
      refine rt ⟨?_, rfl⟩
      simp_all
    · refine sp ?_
      iterate 2 (refine sp ?_)
      iterate 2 (refine st (h := O) ?_)
      refine nl ?_
      refine rt ⟨?_, rfl⟩
      simp_all
theorem ends_iff {l : List Item} {a b : Int} (hg : goodL l = true) : ((decide (a = -1) || legalB l a) && (legalB l b && decide (a < b))) = lineB l a b := by
  rw [Bool.eq_iff_iff]
  simp only [lineB, hg, Bool.true_and, Bool.and_eq_true, Bool.or_eq_true, decide_eq_true_eq]
  constructor
  · rintro ⟨h1, h2, h3⟩; exact ⟨⟨h2, h3⟩, h1⟩
  · rintro ⟨⟨h2, h3⟩, h1⟩; exact ⟨h1, h2, h3⟩
theorem R24Measure_C (F : Mem) (v : Value) (l : List Item) (a b : Int) (hv : RItems F v l) : C0 Try.prog 26 [v, .int .i64 a, .int .i64 b] F (.tuple #[.int .i64 (measD l a b).1, .int .i64 (measD l a b).2.1, .int .i64 (measD l a b).2.2]) := by
  have hno : ¬ lineB l a b = true → measD l a b = (0, 0, 0) := lineB_no
  rcases hv.forms with ⟨vb, vo, vc, rfl⟩ | ⟨rfl, rfl⟩
  ·
    refine C.go hT Try.func26 Try.ntmps26 ?_
    refine sq ?_
    refine rg ?_
    iterate 3 (refine st (h := O) ?_)
    refine nl ?_
    iterate 2 (refine sq ?_)
    refine rg ?_
    refine st (h := O) ?_
    refine cl (h := by exact fun ι hV hl => RGood_C _ _ l (hv.le hl)) ?_
    iterate 2 (refine st (h := O) ?_)
    refine gB (fun g12 => ?_) (fun g12 => ?_)
    · refine sp ?_
      iterate 4 (refine sp ?_)
      refine st (h := O) ?_
      refine nl ?_
      refine cT ?_
      refine sq ?_
      refine rg ?_
      iterate 3 (refine st (h := O) ?_)
      refine nl ?_
      refine rt ⟨?_, rfl⟩
      rw [hno (fun h => not_of g12 (lineB_facts h).1)]
    · refine sg (h := O) ?_
      iterate 2 (refine sg (h := O) ?_)
      refine clg (h := by exact fun ι hV hl => ends_C _ _ l _ _ (hv.le hl)) ?_
      rw [ends_iff (of_not g12)]
      refine sg (h := O) ?_
      refine st (h := O) ?_
      refine nl ?_
      refine cB (fun c0 => ?_) (fun c0 => ?_)
      · refine sq ?_
        refine rg ?_
        iterate 3 (refine st (h := O) ?_)
        refine nl ?_
        refine rt ⟨?_, rfl⟩
        rw [hno (not_of c0)]
      · have hB := of_not c0
        obtain ⟨hgl, hb0, hbl, ha0, hab⟩ := lineB_facts hB
        obtain ⟨a1, ha1⟩ := Int.eq_ofNat_of_zero_le (show (0 : Int) ≤ a + 1 by omega)
        obtain ⟨b1, rfl⟩ := Int.eq_ofNat_of_zero_le hb0
        refine sk ?_
        refine sq ?_
        refine rg ?_
        iterate 3 (refine st (h := O) ?_)
        refine cl (h := by exact fun ι hV hl => rmeasure_C _ _ l a a1 b1 (hv.le hl) hgl ha1 (by omega) (by omega)) ?_
        iterate 6 (refine st (h := O) ?_)
        refine nl ?_
        refine rt ⟨?_, rfl⟩
        simp only [measD, if_pos hB, ha1, Int.toNat_natCast]
  · rw [hno (fun h => by cases (lineB_facts h).1)]
    refine C.go hT Try.func26 Try.ntmps26 ?_
    refine sq ?_
    refine rg ?_
    iterate 3 (refine st (h := O) ?_)
    refine nl ?_
    iterate 2 (refine sq ?_)
    refine rg ?_
    refine st (h := O) ?_
    refine cl (h := by exact fun ι hV hl => RGood_C _ _ [] (hv.le hl)) ?_
    iterate 2 (refine st (h := O) ?_)
    refine gB (fun g12 => ?_) (fun g12 => ?_)
    · refine sp ?_
      iterate 4 (refine sp ?_)
      refine st (h := O) ?_
      refine nl ?_
      refine cT ?_
      refine sq ?_
      refine rg ?_
      iterate 3 (refine st (h := O) ?_)
      refine nl ?_
      exact rt ⟨rfl, rfl⟩
    · cases of_not g12
theorem toldD_fits {l : List Item} {x : Par} {a1 b : Nat} : (toldD l x a1 b).fits = (judD l x a1 b).fits := by
  unfold toldD
  split
  · rfl
  · rename_i h
    have h' : ¬ (b : Int) ≤ foA l a1 := by omega
    unfold judD
    split <;> simp [h']
theorem toldD_eq {l : List Item} {x : Par} {a1 b : Nat} (h : (judD l x a1 b).fits = true) : toldD l x a1 b = judD l x a1 b := by
  unfold toldD
  split
  · rfl
  · rename_i h2
    have h' : ¬ (b : Int) ≤ foA l a1 := by omega
    unfold judD at h
    split at h <;> simp [h'] at h
theorem R24Fits_C (F : Mem) (v : Value) (l : List Item) (a b : Int) (x : Par) (hv : RItems F v l) : C0 Try.prog 28 [v, .int .i64 a, .int .i64 b, x.v] F (.bool (fitsD l a b x)) := by
  have hno : ¬ lineB l a b = true → fitsD l a b x = false := fun h => by simp [fitsD, h]
  have hno2 : ¬ x.good = true → fitsD l a b x = false := fun h => by simp [fitsD, h]
  have hye : x.good = true → lineB l a b = true → fitsD l a b x = (judD l x (a + 1).toNat b.toNat).fits := fun h1 h2 => by simp [fitsD, h1, h2]
  obtain ⟨xw, tol, line, twice, odd⟩ := x
  dsimp only [Par.v]
  rcases hv.forms with ⟨vb, vo, vc, rfl⟩ | ⟨rfl, rfl⟩
  ·
    refine C.go hT Try.func28 Try.ntmps28 ?_
    refine sq ?_
    refine rg ?_
    refine bx ?_
    refine st (h := O) ?_
    refine nl ?_
    refine sq ?_
    refine rg ?_
    refine st (h := O) ?_
    refine cl (h := by exact fun ι hV hl => RGood_C _ _ l (hv.le hl)) ?_
    refine st (h := O) ?_
    refine gB (fun g11 => ?_) (fun g11 => ?_)
    · refine sg (h := sdLN) ?_
      refine clg (h := by exact fun ι hV hl => r23Good_C _ ⟨xw, tol, line, twice, odd⟩) ?_
      iterate 2 (refine st (h := O) ?_)
      refine gB (fun g15 => ?_) (fun g15 => ?_)
      · refine sg (h := O) ?_
        iterate 2 (refine sg (h := O) ?_)
        refine clg (h := by exact fun ι hV hl => ends_C _ _ l _ _ (hv.le hl)) ?_
        rw [ends_iff g11]
        iterate 2 (refine st (h := O) ?_)
        refine gB (fun g21 => ?_) (fun g21 => ?_)
        · have hB := g21
          obtain ⟨hgl, hb0, hbl, ha0, hab⟩ := lineB_facts hB
          obtain ⟨a1, ha1⟩ := Int.eq_ofNat_of_zero_le (show (0 : Int) ≤ a + 1 by omega)
          obtain ⟨b1, rfl⟩ := Int.eq_ofNat_of_zero_le hb0
          iterate 3 (refine sg (h := O) ?_)
          refine sg (h := sdLN) ?_
          refine clg (h := by exact fun ι hV hl => told24_C _ _ l a a1 b1 ⟨xw, tol, line, twice, odd⟩ (hv.le hl) hgl g15 ha1 (by omega) (by omega)) ?_
          refine sg (h := O) ?_
          iterate 2 (refine st (h := O) ?_)
          refine nl ?_
          refine rt ⟨?_, rfl⟩
          rw [hye g15 hB, toldD_fits]
          simp only [ha1, Int.toNat_natCast]
        · refine sp ?_
          iterate 5 (refine sp ?_)
          iterate 2 (refine st (h := O) ?_)
          refine nl ?_
          refine rt ⟨?_, rfl⟩
          rw [hno (fun h => by rw [h] at g21; cases g21)]
      · refine sp ?_
        iterate 3 (refine sp ?_)
        iterate 2 (refine st (h := O) ?_)
        iterate 6 (refine sp ?_)
        iterate 2 (refine st (h := O) ?_)
        refine nl ?_
        refine rt ⟨?_, rfl⟩
        rw [hno2 (fun h => by rw [h] at g15; cases g15)]
    · refine sp ?_
      refine sp ?_
      iterate 2 (refine st (h := O) ?_)
      iterate 4 (refine sp ?_)
      iterate 2 (refine st (h := O) ?_)
      iterate 6 (refine sp ?_)
      iterate 2 (refine st (h := O) ?_)
      refine nl ?_
      refine rt ⟨?_, rfl⟩
      rw [hno (fun h => by rw [(lineB_facts h).1] at g11; cases g11)]
  · rw [hno (fun h => by cases (lineB_facts h).1)]
    refine C.go hT Try.func28 Try.ntmps28 ?_
    refine sq ?_
    refine rg ?_
    refine bx ?_
    refine st (h := O) ?_
    refine nl ?_
    refine sq ?_
    refine rg ?_
    refine st (h := O) ?_
    refine cl (h := by exact fun ι hV hl => RGood_C _ _ [] (hv.le hl)) ?_
    refine st (h := O) ?_
    refine gB (fun g11 => ?_) (fun g11 => ?_)
    · cases g11
    · refine sp ?_
      refine sp ?_
      iterate 2 (refine st (h := O) ?_)
      iterate 4 (refine sp ?_)
      iterate 2 (refine st (h := O) ?_)
      iterate 6 (refine sp ?_)
      iterate 2 (refine st (h := O) ?_)
      refine nl ?_
      exact rt ⟨rfl, rfl⟩

end Go.Proofs.Ytbeblgjibfoanaa.Am
