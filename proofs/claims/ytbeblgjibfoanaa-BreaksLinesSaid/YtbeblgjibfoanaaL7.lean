/- The walk of BreaksLines -/
import Derived.Test.YtbeblgjibfoanaaV8
import Derived.Test.YtbeblgjibfoanaaV4
namespace Go.Proofs.Ytbeblgjibfoanaa.Am
set_option linter.unusedSimpArgs false
set_option linter.unusedVariables false
set_option maxRecDepth 100000
set_option maxHeartbeats 4000000
open Go Go.RowKit
theorem law7_C (F : Mem) (v : Value) (l : List Item) (a b : Int) (x : Par) (hv : RItems F v l) (hgl : ∀ x ∈ l, x.glyphs.length * 8 ≤ 140737488355328) : C0 Try.prog 7 [v, .agg #[.int .i64 a, .int .i64 b], x.v] F (.bool true) := by
  have hM : ∀ G w, RItems G w l → C0 Try.prog 25 [w, .int .i64 a, .int .i64 b] G (.tuple #[.int .i64 (measD l a b).1, .int .i64 (measD l a b).2.1, .int .i64 (measD l a b).2.2]) := fun G w h => Measure_C G w l a b h
  have hM2 : ∀ G w, RItems G w l → C0 Try.prog 26 [w, .int .i64 a, .int .i64 b] G (.tuple #[.int .i64 (measD l a b).1, .int .i64 (measD l a b).2.1, .int .i64 (measD l a b).2.2]) := fun G w h => R24Measure_C G w l a b h
  have hLa : ∀ G w, RItems G w l → C0 Try.prog 23 [w, .int .i64 a] G (.bool (goodL l && legalB l a)) := fun G w h => Legal_C G w l a h
  have hLa2 : ∀ G w, RItems G w l → C0 Try.prog 27 [w, .int .i64 a] G (.bool (goodL l && legalB l a)) := fun G w h => R24Legal_C G w l a h
  have hLb : ∀ G w, RItems G w l → C0 Try.prog 23 [w, .int .i64 b] G (.bool (goodL l && legalB l b)) := fun G w h => Legal_C G w l b h
  have hLb2 : ∀ G w, RItems G w l → C0 Try.prog 27 [w, .int .i64 b] G (.bool (goodL l && legalB l b)) := fun G w h => R24Legal_C G w l b h
  have hFi : ∀ G w, RItems G w l → C0 Try.prog 24 [w, .int .i64 a, .int .i64 b, x.v] G (.bool (fitsD l a b x)) := fun G w h => Fits_C G w l a b x h
  have hFi2 : ∀ G w, RItems G w l → C0 Try.prog 28 [w, .int .i64 a, .int .i64 b, x.v] G (.bool (fitsD l a b x)) := fun G w h => R24Fits_C G w l a b x h
  generalize measD l a b = md at *
  obtain ⟨m1, m2, m3⟩ := md
  generalize (goodL l && legalB l a) = la at *
  generalize (goodL l && legalB l b) = lb at *
  generalize fitsD l a b x = fd at *
  obtain ⟨xw, tol, line, twice, odd⟩ := x
  dsimp only [Par.v] at *
  rcases hv.forms with ⟨vb, vo, vc, rfl⟩ | ⟨rfl, hnil⟩
  all_goals
    refine C.go hT Try.func7 Try.ntmps7 ?_
    refine sq ?_
    refine rg ?_
    iterate 2 (refine bx ?_)
    refine st (h := O) ?_
    refine nl ?_
    iterate 2 (refine sq ?_)
    refine rg ?_
    refine st (h := O) ?_
    refine cl (h := by exact fun ι hV hl => large_C _ _ l (hv.le hl)) ?_
    refine nl ?_
    refine cB (fun c0 => ?_) (fun c0 => ?_)
    · refine sq ?_
      refine rg ?_
      refine cl (h := by exact fun ι hV hl => wakes_C _) ?_
      refine st (h := O) ?_
      refine nl ?_
      exact rt ⟨rfl, rfl⟩
    · have hl3 : l.length ≤ 3000 := by simp at c0; omega
      refine sk ?_
      refine sq ?_
      refine rg ?_
      refine st (h := O) ?_
      refine clC (h := by exact fun ι hV hl => Copy_C _ _ l (hv.le hl) hl3 hgl) ?_
      intro p Y2 hQ2 hpv2 hpp2 hN2
      obtain ⟨hp, hI2⟩ := hQ2
      rcases hp with ⟨pb, po, pn, pc, rfl⟩ | ⟨pn, pc, rfl⟩
      all_goals
        refine st (h := O) ?_
        refine nl ?_
        refine sq ?_
        refine rg ?_
        refine st (h := O) ?_
        refine st (h := sdFA) ?_
        refine st (h := sdL) ?_
        refine st (h := sdFA) ?_
        refine st (h := sdL) ?_
        refine cl (h := by exact fun ι hV hl => hM _ _ ((hI2 _ hN2.rows).le hl)) ?_
        iterate 7 (refine st (h := O) ?_)
        refine nl ?_
        refine sq ?_
        refine rg ?_
        refine st (h := O) ?_
        refine st (h := sdFA) ?_
        refine st (h := sdL) ?_
        refine st (h := sdFA) ?_
        refine st (h := sdL) ?_
        refine cl (h := by exact fun ι hV hl => hM2 _ _ ((hv.le hN2.le).le hl)) ?_
        iterate 7 (refine st (h := O) ?_)
        refine nl ?_
        refine sq ?_
        refine dr 56 [5, 4] [0, 1, 2, 3, 4, 5, 6, 7, 8, 9, 10, 11, 12, 13, 14, 15, 16, 18, 19, 20, 1017, 1021, 22, 23, 24, 25, 26, 27, 29, 30, 31, 1028, 1032, 33, 34, 35, 36, 37, 38, 39, 40, 41, 43, 44, 45, 46, 47, 48, 1042, 1049, 50, 51, 52, 1053, 54, 55] ?_
        iterate 4 (refine dt (hv := by exact O) ?_)
        refine dgD (fun g42 => ?_) (fun g42 => ?_)
        · refine dg (hv := by exact O) ?_
          iterate 2 (refine dg (hv := by exact O) ?_)
          iterate 2 (refine dt (hv := by exact O) ?_)
          refine dgD (fun g47 => ?_) (fun g47 => ?_)
          · refine dg (hv := by exact O) ?_
            iterate 2 (refine dg (hv := by exact O) ?_)
            iterate 2 (refine dt (hv := by exact O) ?_)
            refine dgD (fun g52 => ?_) (fun g52 => ?_)
            · refine dg (hv := by exact O) ?_
              refine dg (hv := by exact sdFA) ?_
              refine dg (hv := by exact sdL) ?_
              refine dg (hv := by exact O) ?_
              refine dg (hv := by exact sdFA) ?_
              refine dg (hv := by exact sdL) ?_
              refine dclg (hkp := by first | exact Kept.all | exact Kept.k0 | exact Kept.kY) (h := by exact fun ι hV hl => hLa _ _ ((hI2 _ hN2.rows).le hl)) ?_
              refine dclg (hkp := by first | exact Kept.all | exact Kept.k0 | exact Kept.kY) (h := by exact fun ι hV hl => hLa2 _ _ ((hv.le hN2.le).le hl)) ?_
              refine dg (hv := by exact sbEq) ?_
              iterate 2 (refine dt (hv := by exact O) ?_)
              refine dgB (fun g63 => ?_) (fun g63 => ?_)
              · refine dg (hv := by exact O) ?_
                refine dg (hv := by exact sdFA) ?_
                refine dg (hv := by exact sdL) ?_
                refine dg (hv := by exact O) ?_
                refine dg (hv := by exact sdFA) ?_
                refine dg (hv := by exact sdL) ?_
                refine dclg (hkp := by first | exact Kept.all | exact Kept.k0 | exact Kept.kY) (h := by exact fun ι hV hl => hLb _ _ ((hI2 _ hN2.rows).le hl)) ?_
                refine dclg (hkp := by first | exact Kept.all | exact Kept.k0 | exact Kept.kY) (h := by exact fun ι hV hl => hLb2 _ _ ((hv.le hN2.le).le hl)) ?_
                refine dg (hv := by exact sbEq) ?_
                iterate 2 (refine dt (hv := by exact O) ?_)
                refine dgB (fun g74 => ?_) (fun g74 => ?_)
                · refine dg (hv := by exact O) ?_
                  refine dg (hv := by exact sdFA) ?_
                  refine dg (hv := by exact sdL) ?_
                  refine dg (hv := by exact sdFA) ?_
                  refine dg (hv := by exact sdL) ?_
                  refine dg (hv := by exact sdLN) ?_
                  refine dg (hv := by exact O) ?_
                  refine dg (hv := by exact sdFA) ?_
                  refine dg (hv := by exact sdL) ?_
                  refine dg (hv := by exact sdFA) ?_
                  refine dg (hv := by exact sdL) ?_
                  refine dg (hv := by exact sdLN) ?_
                  refine dclg (hkp := by first | exact Kept.all | exact Kept.k0 | exact Kept.kY) (h := by exact fun ι hV hl => hFi _ _ ((hI2 _ hN2.rows).le hl)) ?_
                  refine dclg (hkp := by first | exact Kept.all | exact Kept.k0 | exact Kept.kY) (h := by exact fun ι hV hl => hFi2 _ _ ((hv.le hN2.le).le hl)) ?_
                  refine dg (hv := by exact sbEq) ?_
                  iterate 2 (refine dt (hv := by exact O) ?_)
                  refine dgB (fun g91 => ?_) (fun g91 => ?_)
                  · refine dclg (hkp := by first | exact Kept.all | exact Kept.k0 | exact Kept.kY) (h := by exact fun ι hV hl => wakes_C _) ?_
                    iterate 2 (refine dt (hv := by exact O) ?_)
                    refine dn ?_
                    refine J.dropF ?_
                    exact rt ⟨rfl, rfl⟩
                  · simp at g91
                · simp at g74
              · simp at g63
            · exact absurd rfl g52
          · exact absurd rfl g47
        · exact absurd rfl g42

end Go.Proofs.Ytbeblgjibfoanaa.Am
