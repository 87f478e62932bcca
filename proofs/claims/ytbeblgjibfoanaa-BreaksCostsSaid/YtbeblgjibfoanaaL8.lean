/- The walk of BreaksCosts -/
import Derived.Test.YtbeblgjibfoanaaV8
import Derived.Test.YtbeblgjibfoanaaV5
namespace Go.Proofs.Ytbeblgjibfoanaa.Am
set_option linter.unusedSimpArgs false
set_option linter.unusedVariables false
set_option maxRecDepth 100000
set_option maxHeartbeats 4000000
open Go Go.RowKit
theorem law8_C (F : Mem) (v u : Value) (l : List Item) (at' : List Int) (x : Par) (hv : RItems F v l) (hu : RInts F u at') (hcap : ∀ a n c, u = .slice (some a) n c → n ≤ c) (hgl : ∀ x ∈ l, x.glyphs.length * 8 ≤ 140737488355328) : C0 Try.prog 8 [v, u, x.v] F (.bool true) := by
  have hCo : ∀ G w y, RItems G w l → RInts G y (at'.take 2000) → C0 Try.prog 30 [w, y, x.v] G (.tuple #[.int .i64 (costD l (at'.take 2000) x).1, .bool (costD l (at'.take 2000) x).2]) := fun G w y h1 h2 => Cost_C G w y l _ x h1 h2
  have hRo : ∀ G w y, RItems G w l → RInts G y (at'.take 2000) → C0 Try.prog 31 [w, y, x.v] G (.tuple #[.int .i64 (costD l (at'.take 2000) x).1, .bool (costD l (at'.take 2000) x).2]) := fun G w y h1 h2 => RCost_C G w y l _ x h1 h2
  generalize costD l (at'.take 2000) x = cd at *
  obtain ⟨xw, tol, line, twice, odd⟩ := x
  dsimp only [Par.v] at *
  have hu2 := hu.sl
  rcases hv.forms with ⟨vb, vo, vc, rfl⟩ | ⟨rfl, hnil⟩ <;> rcases hu2 with ⟨ub, uo, un, uc, rfl⟩ | ⟨un, uc, rfl⟩
  all_goals
    refine C.go hT Try.func8 Try.ntmps8 ?_
    refine sq ?_
    refine rg ?_
    refine bx ?_
    refine st (h := O) ?_
    refine nl ?_
    iterate 2 (refine sq ?_)
    refine rg ?_
    refine st (h := O) ?_
    refine cl (h := by exact fun ι hV hl => large_C _ _ l (hv.le hl)) ?_
    refine nl ?_
    refine cB (fun c0 => ?_) (fun c0 => ?_)
    · refine sq ?_
      refine rg ?_
      refine cl (h := by exact fun ι hV hl => wakes_C _) ?_
      refine st (h := O) ?_
      refine nl ?_
      exact rt ⟨rfl, rfl⟩
    · have hl3 : l.length ≤ 3000 := by simp at c0; omega
      refine sk ?_
      refine sq ?_
      refine rg ?_
      refine st (h := O) ?_
      refine clC (h := by exact fun ι hV hl => Ints_C _ _ at' (hu.le hl) hcap) ?_
      intro m Y1 hQ1 hpv1 hpp1 hN1
      obtain ⟨hm, hI1⟩ := hQ1
      rcases hm with ⟨mb, mo, mn, mc, rfl⟩ | ⟨mn, mc, rfl⟩
      all_goals
        refine st (h := O) ?_
        refine nl ?_
        refine sq ?_
        refine dr 10 [5] [0, 2, 3, 1001, 1004, 5, 6, 7, 8, 9] ?_
        iterate 2 (refine dt (hv := by exact O) ?_)
        refine dt (hv := by exact sdLN) ?_
        refine dclC (hkp := by first | exact Kept.all | exact Kept.k0 | exact Kept.kY) (h := by exact fun ι hV hl => Copy_C _ _ l ((hv.le hN1.le).le hl) hl3 hgl) ?_
        intro p Y2 hQ2 hpv2 hpp2 hN2
        obtain ⟨hp, hI2⟩ := hQ2
        rcases hp with ⟨pb, po, pn, pc, rfl⟩ | ⟨pn, pc, rfl⟩
        all_goals
          refine dcl (hkp := by first | exact Kept.all | exact Kept.k0 | exact Kept.kY) (h := by exact fun ι hV hl => hCo _ _ _ ((hI2 _ hN2.rows).le hl) (((hI1 _ hN1.rows).le hN2.le).le hl)) ?_
          iterate 5 (refine dt (hv := by exact O) ?_)
          refine dn ?_
          refine sq ?_
          refine dr 10 [5] [0, 1, 3, 1002, 1004, 5, 6, 7, 8, 9] ?_
          iterate 2 (refine dt (hv := by exact O) ?_)
          refine dt (hv := by exact sdLN) ?_
          refine dclC (hkp := by first | exact Kept.all | exact Kept.k0 | exact Kept.kY) (h := by exact fun ι hV hl => Ints_C _ _ at' (((hu.le hN1.le).le hN2.le).le hl) hcap) ?_
          intro m2 Y3 hQ3 hpv3 hpp3 hN3
          obtain ⟨hm3, hI3⟩ := hQ3
          rcases hm3 with ⟨mb3, mo3, mn3, mc3, rfl⟩ | ⟨mn3, mc3, rfl⟩
          all_goals
            refine dcl (hkp := by first | exact Kept.all | exact Kept.k0 | exact Kept.kY) (h := by exact fun ι hV hl => hRo _ _ _ ((((hv.le hN1.le).le hN2.le).le hN3.le).le hl) ((hI3 _ hN3.rows).le hl)) ?_
            iterate 5 (refine dt (hv := by exact O) ?_)
            refine dn ?_
            refine sq ?_
            refine rg ?_
            iterate 4 (refine st (h := O) ?_)
            refine gD (fun g36 => ?_) (fun g36 => ?_)
            · refine sg (h := O) ?_
              refine sg (h := O) ?_
              refine sg (h := sbEq) ?_
              iterate 2 (refine st (h := O) ?_)
              refine gB (fun g41 => ?_) (fun g41 => ?_)
              · refine clg (h := by exact fun ι hV hl => wakes_C _) ?_
                iterate 2 (refine st (h := O) ?_)
                refine nl ?_
                rw [add_add, add_add]
                refine J.dropF ?_
                exact rt ⟨rfl, rfl⟩
              · simp at g41
            · exact absurd rfl g36

end Go.Proofs.Ytbeblgjibfoanaa.Am
