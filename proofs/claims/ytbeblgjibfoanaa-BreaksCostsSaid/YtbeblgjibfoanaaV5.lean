/- Contracts: the reference's costs -/
import Derived.Test.YtbeblgjibfoanaaV4
namespace Go.Proofs.Ytbeblgjibfoanaa.Am
set_option linter.unusedSimpArgs false
set_option linter.unusedVariables false
set_option maxRecDepth 100000
set_option maxHeartbeats 4000000
open Go Go.RowKit
theorem RCost_C (F : Mem) (v u : Value) (l : List Item) (at' : List Int) (x : Par) (hv : RItems F v l) (hu : RInts F u at') : C0 Try.prog 31 [v, u, x.v] F (.tuple #[.int .i64 (costD l at' x).1, .bool (costD l at' x).2]) := by
  have hcd : ¬ (goodL l = true ∧ x.good = true ∧ 0 < at'.length ∧ ints at' (at'.length - 1) = l.length - 1) → costD l at' x = (0, false) := fun h => by simp only [costD, h, if_false]
  have hcg : (goodL l = true ∧ x.good = true ∧ 0 < at'.length ∧ ints at' (at'.length - 1) = l.length - 1) → costD l at' x = wayD l x at' (-1) 1 0 := fun h => by simp only [costD, h, and_self, if_true]
  rcases hv.cases with ⟨vb, vo, vc, rfl, _, hr⟩ | ⟨rfl, rfl⟩
  · rcases hu with ⟨ab, ao, ac, rfl, hal, har⟩ | ⟨rfl, rfl⟩
    · have hlast : 0 < at'.length → look F ⟨ab, ao + ((at'.length : Int) - 1).toNat * 1, none⟩ = some (.int .i64 (ints at' (at'.length - 1))) := fun h => by
        rw [Nat.mul_one]
        have := har (at'.length - 1) _ (ints_get (by omega))
        rwa [show ((at'.length : Int) - 1).toNat = at'.length - 1 from by omega]
      have hix : ∀ k, k < at'.length → look F ⟨ab, ao + (k : Int).toNat * 1, none⟩ = some (.int .i64 (ints at' k)) := fun k h => by
        rw [Nat.mul_one]
        exact har k _ (ints_get h)
      obtain ⟨xw, tol, line, twice, odd⟩ := x
      generalize hX : (⟨xw, tol, line, twice, odd⟩ : Par) = X at *
      have hXv : X.v = .agg #[.int .i64 xw, .int .i64 tol, .int .i64 line, .int .i64 twice, .int .i64 odd] := by rw [← hX]; rfl
      have hGd : ∀ G : Mem, C0 Try.prog 35 [.agg #[.int .i64 xw, .int .i64 tol, .int .i64 line, .int .i64 twice, .int .i64 odd]] G (.bool X.good) := fun G => by rw [← hXv]; exact r23Good_C G X
      have hJ : ∀ (G : Mem), F.le G → ∀ (a : Int) (a1 b : Nat), goodL l = true → X.good = true → a + 1 = a1 → a1 ≤ b → b < l.length → C0 Try.prog 43 [.slice (some ⟨vb, vo, none⟩) l.length vc, .int .i64 a, .int .i64 b, .agg #[.int .i64 xw, .int .i64 tol, .int .i64 line, .int .i64 twice, .int .i64 odd]] G (judgV (toldD l X a1 b)) := fun G hG a a1 b h1 h2 h3 h4 h5 => by rw [← hXv]; exact told24_C G _ l a a1 b X (hv.le hG) h1 h2 h3 h4 h5
      have hMo : ∀ (G : Mem) (a b : Int) (f g : Bool), C0 Try.prog 51 [.int .i64 a, .int .i64 b, .bool f, .bool g, .agg #[.int .i64 xw, .int .i64 tol, .int .i64 line, .int .i64 twice, .int .i64 odd]] G (.int .i64 (moreD a b f g X)) := fun G a b f g => by rw [← hXv]; exact r23More_C G a b f g X
      have hXl : X.line = line := by rw [← hX]
      rw [hXv]
      refine C.go hT Try.func31 Try.ntmps31 ?_
      refine sq ?_
      refine rg ?_
      refine bx ?_
      iterate 2 (refine st (h := O) ?_)
      refine nl ?_
      iterate 2 (refine sq ?_)
      refine rg ?_
      refine st (h := O) ?_
      refine cl (h := by exact fun ι hV hl => RGood_C _ _ l (hv.le hl)) ?_
      iterate 2 (refine st (h := O) ?_)
      refine gB (fun g18 => ?_) (fun g18 => ?_)
      · refine sp ?_
        iterate 2 (refine sp ?_)
        iterate 2 (refine st (h := O) ?_)
        iterate 3 (refine sp ?_)
        iterate 2 (refine st (h := O) ?_)
        iterate 10 (refine sp ?_)
        refine st (h := O) ?_
        refine nl ?_
        refine cT ?_
        refine sq ?_
        refine rg ?_
        iterate 2 (refine st (h := O) ?_)
        refine nl ?_
        refine rt ⟨?_, rfl⟩
        rw [hcd (by rintro ⟨h, -⟩; simp [h] at g18)]
      · have hlen := good_len (l := l) (by simpa using g18)
        refine sg (h := sdLN) ?_
        refine clg (h := by exact fun ι hV hl => hGd _) ?_
        refine sg (h := O) ?_
        iterate 2 (refine st (h := O) ?_)
        refine gB (fun g23 => ?_) (fun g23 => ?_)
        · refine sp ?_
          iterate 2 (refine sp ?_)
          iterate 2 (refine st (h := O) ?_)
          iterate 10 (refine sp ?_)
          refine st (h := O) ?_
          refine nl ?_
          refine cT ?_
          refine sq ?_
          refine rg ?_
          iterate 2 (refine st (h := O) ?_)
          refine nl ?_
          refine rt ⟨?_, rfl⟩
          rw [hcd (by rintro ⟨-, h, -⟩; simp [h] at g23)]
        · refine sg (h := O) ?_
          iterate 2 (refine sg (h := O) ?_)
          iterate 2 (refine st (h := O) ?_)
          refine gD (fun g28 => ?_) (fun g28 => ?_)
          · refine sp ?_
            iterate 9 (refine sp ?_)
            refine st (h := O) ?_
            refine nl ?_
            refine cT ?_
            refine sq ?_
            refine rg ?_
            iterate 2 (refine st (h := O) ?_)
            refine nl ?_
            refine rt ⟨?_, rfl⟩
            rw [hcd (by simp; omega)]
          · have hpos : 0 < at'.length := by omega
            have hlk := hlast hpos
            iterate 3 (refine sg (h := O) ?_)
            refine sg (h := sdS) ?_
            refine sg (h := (sdX (z := 1))) ?_
            refine sg (h := (by first | exact sdLG | exact sdW)) ?_
            iterate 2 (refine sg (h := O) ?_)
            refine sg (h := sdS) ?_
            refine sg (h := O) ?_
            refine st (h := O) ?_
            refine nl ?_
            refine cN (fun c0 => ?_) (fun c0 => ?_)
            · refine sq ?_
              refine rg ?_
              iterate 2 (refine st (h := O) ?_)
              refine nl ?_
              refine rt ⟨?_, rfl⟩
              rw [hcd (by simp only [not_and]; intros; omega)]
            · have hgl : goodL l = true := by simpa using g18
              have hgx : X.good = true := by simpa using g23
              rw [hcg ⟨hgl, hgx, hpos, by omega⟩]
              clear hcd hcg hlk hlast
              refine sk ?_
              refine sq ?_
              refine rg ?_
              iterate 4 (refine st (h := O) ?_)
              refine nl ?_
              iterate 2 (refine sq ?_)
              refine rg ?_
              refine st (h := O) ?_
              refine nl ?_
              refine bl ?_
              refine J.loop4 (α := Nat) (β := Int) (γ := Int) (δ := Int) (fun k a cls sum => k ≤ at'.length ∧ -1 ≤ a ∧ a < l.length ∧ (k : Int) ≤ a + 1 ∧ (a = -1 ∨ legalB l a = true) ∧ (-100000000 * (k : Int) ≤ sum ∧ sum ≤ 223000000 * (k : Int)) ∧ wayD l X (at'.drop k) a cls sum = wayD l X at' (-1) 1 0) (fun k a cls sum => [(8, .int .i64 sum), (9, .int .i64 cls), (10, .bool (flagA l a)), (11, .int .i64 a), (12, .int .i64 k)]) [(0, _), (1, _), (5, _)] (fun k a cls sum => []) [(5, _)] (fun k a cls sum => at'.length - k) (0) (-1) (1) (0) (by exact ⟨rfl, rfl, rfl, rfl, rfl, trivial⟩) (by exact ⟨rfl, rfl, rfl, trivial⟩) (by exact ⟨rfl, rfl, trivial⟩) ?_ ?_
              · exact ⟨by omega, by omega, by omega, by omega, .inl rfl, by omega, rfl⟩
              · intro k a cls sum L1 K1 e1 e2 hI
                dsimp only [apV, apR, List.cons_append, List.nil_append] at e1 e2
                subst e1 e2
                obtain ⟨hk, ha, hal2, hka, hla, hsum, hway⟩ := hI
                iterate 2 (refine sq ?_)
                refine rg ?_
                iterate 4 (refine st (h := O) ?_)
                refine nl ?_
                refine cD (fun c1 => ?_) (fun c1 => ?_)
                · have hkl : k < at'.length := by omega
                  have hlk := hix k hkl
                  rw [drop_cons hkl] at hway
                  generalize ints at' k = b at *
                  refine sk ?_
                  refine sq ?_
                  refine bl ?_
                  refine sq ?_
                  refine rg ?_
                  iterate 2 (refine st (h := O) ?_)
                  refine st (h := (sdX (z := 1))) ?_
                  refine st (h := (by first | exact sdLG | exact sdW)) ?_
                  refine st (h := O) ?_
                  refine nl ?_
                  iterate 2 (refine sq ?_)
                  refine rg ?_
                  iterate 4 (refine st (h := O) ?_)
                  refine gD (fun g53 => ?_) (fun g53 => ?_)
                  · refine sp ?_
                    iterate 4 (refine sp ?_)
                    refine st (h := O) ?_
                    refine nl ?_
                    refine cT ?_
                    refine sq ?_
                    refine rg ?_
                    iterate 2 (refine st (h := O) ?_)
                    refine nl ?_
                    refine rt ⟨?_, rfl⟩
                    rw [← hway, wayD_bad (by omega)]
                  · refine sg (h := O) ?_
                    iterate 2 (refine sg (h := O) ?_)
                    refine clg (h := by exact fun ι hV hl => ends_C _ _ l _ _ (hv.le hl)) ?_
                    rw [ends_iff hgl]
                    refine sg (h := O) ?_
                    refine st (h := O) ?_
                    refine nl ?_
                    refine cB (fun c2 => ?_) (fun c2 => ?_)
                    · refine sq ?_
                      refine rg ?_
                      iterate 2 (refine st (h := O) ?_)
                      refine nl ?_
                      refine rt ⟨?_, rfl⟩
                      have hB := not_of c2
                      rw [← hway, wayD_bad (fun h => hB (by
                        simp only [lineB, hgl, Bool.true_and, Bool.and_eq_true, Bool.or_eq_true, decide_eq_true_eq]
                        exact ⟨⟨h.2, h.1⟩, hla⟩))]
                    · have hB := of_not c2
                      obtain ⟨_, hb0, hbl, ha0, hab⟩ := lineB_facts hB
                      obtain ⟨a1, ha1⟩ := Int.eq_ofNat_of_zero_le (show (0 : Int) ≤ a + 1 by omega)
                      obtain ⟨b1, rfl⟩ := Int.eq_ofNat_of_zero_le hb0
                      have hleg : legalB l b1 = true := by simp only [lineB, Bool.and_eq_true] at hB; exact hB.1.1.2
                      refine sk ?_
                      refine sq ?_
                      refine rg ?_
                      iterate 3 (refine st (h := O) ?_)
                      refine st (h := sdLN) ?_
                      refine cl (h := by exact fun ι hV hl => hJ _ hl a a1 b1 hgl hgx ha1 (by omega) (by omega)) ?_
                      refine al ?_
                      refine so ?_
                      refine nl ?_
                      iterate 2 (refine sq ?_)
                      refine rg ?_
                      refine st (h := sdFA) ?_
                      refine st (h := sdL) ?_
                      refine st (h := O) ?_
                      refine nl ?_
                      refine cB (fun c3 => ?_) (fun c3 => ?_)
                      · refine sq ?_
                        refine rg ?_
                        iterate 2 (refine st (h := O) ?_)
                        refine nl ?_
                        refine rt ⟨?_, rfl⟩
                        rw [← hway, wayD_off (by rw [toldD_fits] at c3; simpa [ha1] using c3)]
                      · have hfit : (judD l X a1 b1).fits = true := by rw [toldD_fits] at c3; simpa using c3
                        rw [toldD_eq hfit]
                        obtain ⟨r0, r1, r2, r3, r4, r5, g, hg2, hri⟩ := hr b1 (by omega)
                        have hN2 : ∀ K, rdN F K ⟨vb, vo + (b1 : Int).toNat * 11, none⟩ 11 = some ((at_ l b1).cells g) := fun K => hg2
                        have hsv := hri.sl
                        have hdb := demD_bd l X (judD l X a1 b1).bad (judD l X a1 b1).cls cls a b1
                        have hl1 := lineD_bd line (judD l X a1 b1).bad (costB (at_ l b1))
                        have hm1 := moreD_bd cls (judD l X a1 b1).cls (flagA l a) (flagB (at_ l b1)) X
                        have hdm : demD l X (judD l X a1 b1).bad (judD l X a1 b1).cls cls a b1 = lineD line (judD l X a1 b1).bad (costB (at_ l b1)) + moreD cls (judD l X a1 b1).cls (flagA l a) (flagB (at_ l b1)) X := by
                          unfold demD costA flagA
                          simp [hXl]
                        rcases hri with (⟨gb, go, gc, rfl, _, _⟩ | ⟨rfl, _⟩) | ⟨gb, go, gsp, rfl, _⟩
                        all_goals
                          refine sk ?_
                          refine sq ?_
                          refine dr 25 [14, 5] [0, 1, 2, 3, 4, 5, 6, 7, 8, 11, 12, 13, 14, 15, 16, 17, 18, 20, 1009, 1010, 1019, 1021, 22, 23, 24] ?_
                          refine dt (hv := by exact O) ?_
                          refine dt (hv := by exact sdFA) ?_
                          refine dt (hv := by exact sdL) ?_
                          refine dt (hv := by exact sdFA) ?_
                          refine dt (hv := by exact sdL) ?_
                          iterate 2 (refine dt (hv := by exact O) ?_)
                          refine dt (hv := by exact (sdX (z := 11))) ?_
                          refine dt (hv := by exact sdLN (hv := hN2 _)) ?_
                          refine dt (hv := by exact O) ?_
                          refine dt (hv := by exact sdFA) ?_
                          refine dt (hv := by exact sdL) ?_
                          iterate 3 (refine dt (hv := by exact O) ?_)
                          refine dt (hv := by exact (sdX (z := 11))) ?_
                          refine dt (hv := by exact sdLN (hv := hN2 _)) ?_
                          refine dt (hv := by exact sdLN) ?_
                          refine dcl (hkp := by first | exact Kept.all | exact Kept.k0 | exact Kept.kY) (h := by exact fun ι hV hl => rcost_C _ (at_ l b1) _ hsv) ?_
                          refine dcl (hkp := by first | exact Kept.all | exact Kept.k0 | exact Kept.kY) (h := by exact fun ι hV hl => r23Line_C _ _ _ _) ?_
                          refine dcl (hkp := by first | exact Kept.all | exact Kept.k0 | exact Kept.kY) (h := by exact fun ι hV hl => rflag_C _ (at_ l b1) _ hsv) ?_
                          refine dcl (hkp := by first | exact Kept.all | exact Kept.k0 | exact Kept.kY) (h := by exact fun ι hV hl => hMo _ _ _ _ _) ?_
                          iterate 2 (refine dt (hv := by exact sdA) ?_)
                          refine dt (hv := by exact O) ?_
                          refine dn ?_
                          refine dr 11 [14, 5] [0, 1, 2, 3, 4, 5, 7, 1006, 8, 9, 10] ?_
                          refine dt (hv := by exact sdFA) ?_
                          refine dt (hv := by exact sdL) ?_
                          iterate 2 (refine dt (hv := by exact O) ?_)
                          refine dt (hv := by exact (sdX (z := 11))) ?_
                          refine dt (hv := by exact sdLN (hv := hN2 _)) ?_
                          refine dt (hv := by exact O) ?_
                          refine dcl (hkp := by first | exact Kept.all | exact Kept.k0 | exact Kept.kY) (h := by exact fun ι hV hl => rflag_C _ (at_ l b1) _ hsv) ?_
                          iterate 3 (refine dt (hv := by exact O) ?_)
                          refine dn ?_
                          refine bk ?_
                          refine rg ?_
                          refine st (h := O) ?_
                          refine st (h := sdA) ?_
                          refine st (h := O) ?_
                          refine nl ?_
                          refine bk4 (k + 1) (_) (_) (_) (by exact ⟨rfl, rfl, rfl, rfl, rfl, trivial⟩) (by exact ⟨rfl, rfl, rfl, trivial⟩) (by exact ⟨rfl, rfl, trivial⟩) ?_ ?_
                          · omega
                          · refine ⟨by omega, by omega, by omega, by omega, .inr hleg, by omega, ?_⟩
                            rw [← hway, wayD_step ⟨by omega, hleg⟩ (by simpa [ha1] using hfit)]
                            simp only [ha1, Int.toNat_natCast, hdm]
                · have hkl : k = at'.length := by omega
                  subst hkl
                  rw [List.drop_length] at hway
                  refine ex ?_
                  refine sq ?_
                  refine rg ?_
                  iterate 3 (refine st (h := O) ?_)
                  refine nl ?_
                  refine rt ⟨?_, rfl⟩
                  rw [← hway]; rfl
    · obtain ⟨xw, tol, line, twice, odd⟩ := x
      dsimp only [Par.v]
      refine C.go hT Try.func31 Try.ntmps31 ?_
      refine sq ?_
      refine rg ?_
      refine bx ?_
      iterate 2 (refine st (h := O) ?_)
      refine nl ?_
      iterate 2 (refine sq ?_)
      refine rg ?_
      refine st (h := O) ?_
      refine cl (h := by exact fun ι hV hl => RGood_C _ _ l (hv.le hl)) ?_
      iterate 2 (refine st (h := O) ?_)
      refine gB (fun g18 => ?_) (fun g18 => ?_)
      · refine sp ?_
        iterate 2 (refine sp ?_)
        iterate 2 (refine st (h := O) ?_)
        iterate 3 (refine sp ?_)
        iterate 2 (refine st (h := O) ?_)
        iterate 10 (refine sp ?_)
        refine st (h := O) ?_
        refine nl ?_
        refine cT ?_
        refine sq ?_
        refine rg ?_
        iterate 2 (refine st (h := O) ?_)
        refine nl ?_
        exact rt ⟨by rw [hcd (by simp)], rfl⟩
      · refine sg (h := sdLN) ?_
        refine clg (h := by exact fun ι hV hl => r23Good_C _ ⟨xw, tol, line, twice, odd⟩) ?_
        refine sg (h := O) ?_
        iterate 2 (refine st (h := O) ?_)
        refine gB (fun g23 => ?_) (fun g23 => ?_)
        · refine sp ?_
          iterate 2 (refine sp ?_)
          iterate 2 (refine st (h := O) ?_)
          iterate 10 (refine sp ?_)
          refine st (h := O) ?_
          refine nl ?_
          refine cT ?_
          refine sq ?_
          refine rg ?_
          iterate 2 (refine st (h := O) ?_)
          refine nl ?_
          exact rt ⟨by rw [hcd (by simp)], rfl⟩
        · refine sg (h := O) ?_
          iterate 2 (refine sg (h := O) ?_)
          iterate 2 (refine st (h := O) ?_)
          refine gD (fun g28 => ?_) (fun g28 => ?_)
          · refine sp ?_
            iterate 9 (refine sp ?_)
            refine st (h := O) ?_
            refine nl ?_
            refine cT ?_
            refine sq ?_
            refine rg ?_
            iterate 2 (refine st (h := O) ?_)
            refine nl ?_
            exact rt ⟨by rw [hcd (by simp)], rfl⟩
          · exact absurd rfl g28
  · have hsl : (∃ b o n c, u = .slice (some ⟨b, o, none⟩) n c) ∨ ∃ n c, u = .slice none n c := hu.sl
    obtain ⟨xw, tol, line, twice, odd⟩ := x
    dsimp only [Par.v]
    rcases hsl with ⟨b, o, n, c, rfl⟩ | ⟨n, c, rfl⟩
    all_goals
      refine C.go hT Try.func31 Try.ntmps31 ?_
      refine sq ?_
      refine rg ?_
      refine bx ?_
      iterate 2 (refine st (h := O) ?_)
      refine nl ?_
      iterate 2 (refine sq ?_)
      refine rg ?_
      refine st (h := O) ?_
      refine cl (h := by exact fun ι hV hl => RGood_C _ _ [] (hv.le hl)) ?_
      iterate 2 (refine st (h := O) ?_)
      refine gB (fun g18 => ?_) (fun g18 => ?_)
      · refine sp ?_
        iterate 2 (refine sp ?_)
        iterate 2 (refine st (h := O) ?_)
        iterate 3 (refine sp ?_)
        iterate 2 (refine st (h := O) ?_)
        iterate 10 (refine sp ?_)
        refine st (h := O) ?_
        refine nl ?_
        refine cT ?_
        refine sq ?_
        refine rg ?_
        iterate 2 (refine st (h := O) ?_)
        refine nl ?_
        exact rt ⟨by rw [hcd (by rintro ⟨h, -⟩; cases h)], rfl⟩
      · cases g18

end Go.Proofs.Ytbeblgjibfoanaa.Am
