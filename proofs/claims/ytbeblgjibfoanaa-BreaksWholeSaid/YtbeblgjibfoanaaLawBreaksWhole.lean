/- The row of BreaksWhole: its walk, over what is handed in. -/
import Derived.Test.YtbeblgjibfoanaaRows
import Derived.Test.YtbeblgjibfoanaaZ5
import Derived.WalkKit
import Derived.ProofKit
import Derived.OpenShut
import Derived.ShutString
import Derived.ChangeOld
import Derived.Below
import Derived.SizedLaws
namespace Go.Proofs.Ytbeblgjibfoanaa.Am
set_option linter.unusedSimpArgs false
set_option linter.unusedVariables false
set_option maxRecDepth 100000
set_option maxHeartbeats 4000000
open Go Go.RowKit
theorem law6_C (F : Mem) (v : Value) (l : List Item) (x : Par) (hv : RItems F v l) (hgl : ∀ x ∈ l, x.glyphs.length * 8 ≤ 140737488355328) : C0 Try.prog 6 [v, x.v] F (.bool true) := by
  have hB : ((breakD l x).2 ≠ 0 → (breakD l x).1.1 = [] ∧ (breakD l x).1.2.1 = 0 ∧ (breakD l x).1.2.2 = false) ∧ ((breakD l x).2 = 0 → goodL l = true ∧ wholeB l x (breakD l x).1.2.2 (-1) (breakD l x).1.1) := by
    unfold breakD
    split
    · rename_i hg
      split
      · rename_i hx
        split
        · rename_i hb
          refine ⟨fun h => absurd rfl h, fun _ => ⟨hg, ?_⟩⟩
          simp only [hb]
          exact whole_bst hg hx hb
        · exact ⟨fun h => absurd rfl h, fun _ => ⟨hg, whole_fst hg hx⟩⟩
      · exact ⟨fun _ => ⟨rfl, rfl, rfl⟩, fun h => by simp at h⟩
    · exact ⟨fun _ => ⟨rfl, rfl, rfl⟩, fun h => by simp at h⟩
  have hBr : ∀ G w, RItems G w l → C Try.prog 13 [w, x.v] G (fun u Y => ∃ w, u = .tuple #[.agg #[w, .int .i64 (breakD l x).1.2.1, .bool (breakD l x).1.2.2], .int .i64 (breakD l x).2] ∧ SlV w ∧ ∀ G, Rd G Y → RInts G w (breakD l x).1.1) := fun G w h => Break_C G w l x h
  generalize breakD l x = bd at *
  obtain ⟨⟨path, cost, fits⟩, err⟩ := bd
  dsimp only at hB hBr
  obtain ⟨xw, tol, line, twice, odd⟩ := x
  dsimp only [Par.v] at *
  rcases hv.cases with ⟨vb, vo, vc, rfl, _, hrr⟩ | ⟨rfl, hnil⟩
  · have hcell : ∀ n, n < l.length → look F ⟨vb, vo + (n : Int).toNat * 11 + 0, none⟩ = some (.int .i64 (at_ l n).kind) ∧ look F ⟨vb, vo + (n : Int).toNat * 11 + 4, none⟩ = some (.int .i64 (at_ l n).cost) := fun n hn => by
      obtain ⟨r0, _, _, _, r4, _⟩ := hrr n hn
      exact ⟨r0, r4⟩
    refine C.go hT Try.func6 Try.ntmps6 ?_
    refine sq ?_
    refine rg ?_
    refine bx ?_
    refine st (h := O) ?_
    refine nl ?_
    iterate 2 (refine sq ?_)
    refine rg ?_
    refine st (h := O) ?_
    refine cl (h := by exact fun ι hV hl => large_C _ _ l (hv.le hl)) ?_
    refine nl ?_
    refine cB (fun c0 => ?_) (fun c0 => ?_)
    · refine sq ?_
      refine rg ?_
      refine cl (h := by exact fun ι hV hl => wakes_C _) ?_
      refine st (h := O) ?_
      refine nl ?_
      exact rt ⟨rfl, rfl⟩
    · have hl3 : l.length ≤ 3000 := by simp at c0; omega
      refine sk ?_
      refine sq ?_
      refine dr 8 [3] [0, 2, 5008] ?_
      refine dt (hv := by exact O) ?_
      refine dt (hv := by exact sdLN) ?_
      refine JD.alt (i := 1) (j := 7) [5007] [1001, 1003, 4, 5, 2006, 1008, 2009] ?_ ?_
      · refine jclC (hkp := by first | exact Kept.all | exact Kept.k0 | exact Kept.kY | exact Kept.kYY | exact Kept.kY3) (h := by exact fun ι hV hl => Copy_C _ _ l (hv.le hl) hl3 hgl) ?_
        intro p Y1 hQ1 hpv1 hpp1 hN1
        obtain ⟨hp, hI1⟩ := hQ1
        rcases hp with ⟨pb, po, pn, pc, rfl⟩ | ⟨pn, pc, rfl⟩
        all_goals
          refine JD.alt (i := 3) (j := 7) [4, 5, 2006, 1007, 1008, 2009] [1003, 4, 5, 2006, 1008, 2009] ?_ ?_
          · refine jclC (hkp := by first | exact Kept.all | exact Kept.k0 | exact Kept.kY | exact Kept.kYY | exact Kept.kY3) (h := by exact fun ι hV hl => hBr _ _ ((hI1 _ hN1.rows).le hl)) ?_
            intro u Y2 hQ2 hpv2 hpp2 hN2
            obtain ⟨w, rfl, _, hI2⟩ := hQ2
            have hIw := hI2 _ hN2.rows
            rcases hIw with ⟨wb, wo, wc, rfl, hw63, hwr⟩ | ⟨rfl, hwe⟩
            all_goals
              iterate 2 (refine dt (hv := by exact O) ?_)
              refine dq (hv := by exact fun _ _ => O) ?_
              refine dal (hkp := by first | exact Kept.all | exact Kept.k0 | exact Kept.kY | exact Kept.kYY | exact Kept.kY3) ?_
              refine dso (hkp := by first | exact Kept.all | exact Kept.k0 | exact Kept.kY | exact Kept.kYY | exact Kept.kY3) ?_
              refine dq (hv := by exact fun _ _ => O) ?_
              refine dn ?_
              iterate 2 (refine sq ?_)
              refine rg ?_
              iterate 2 (refine st (h := O) ?_)
              refine nl ?_
              refine cN (fun c1 => ?_) (fun c1 => ?_)
              · obtain ⟨rfl, rfl, rfl⟩ := hB.1 (by first | exact c1 | simpa using c1)
                refine sq ?_
                refine rg ?_
                refine st (h := sdFA) ?_
                refine st (h := sdL) ?_
                iterate 3 (refine st (h := O) ?_)
                refine gD (fun g27 => ?_) (fun g27 => ?_)
                · refine sg (h := sdFA) ?_
                  refine sg (h := sdL) ?_
                  refine sg (h := O) ?_
                  iterate 2 (refine st (h := O) ?_)
                  refine gB (fun g32 => ?_) (fun g32 => ?_)
                  · refine sg (h := sdFA) ?_
                    refine sg (h := sdL) ?_
                    refine sg (h := O) ?_
                    iterate 2 (refine st (h := O) ?_)
                    refine gD (fun g37 => ?_) (fun g37 => ?_)
                    · refine clg (h := by exact fun ι hV hl => wakes_C _) ?_
                      iterate 2 (refine st (h := O) ?_)
                      refine nl ?_
                      first
                        | (rw [add_add, add_add]
                           refine J.dropF ?_
                           exact rt ⟨rfl, rfl⟩)
                        | (rw [add_add]
                           refine J.dropF ?_
                           exact rt ⟨rfl, rfl⟩)
                    · exact absurd rfl g37
                  · simp at g32
                · exact absurd rfl g27
              · obtain ⟨hg, hW⟩ := hB.2 (by first | exact Classical.byContradiction c1 | simpa using c1)
                refine sk ?_
                refine sq ?_
                refine rg ?_
                refine st (h := O) ?_
                refine nl ?_
                iterate 2 (refine sq ?_)
                refine rg ?_
                refine st (h := O) ?_
                refine nl ?_
                refine bl ?_
                refine J.gloop2 (α := Int) (β := Nat) (fun Y a i => i ≤ path.length ∧ -1 ≤ a ∧ wholeB l ⟨xw, tol, line, twice, odd⟩ fits a (path.drop i)) (fun a i => [(7, .int .i64 a), (8, .int .i64 i)]) [(0, _), (3, _), (5, _)] (fun a i => []) [(5, _), (3, _)] (fun a i => path.length - i) (-1) (0) (by exact ⟨rfl, rfl, trivial⟩) (by exact ⟨rfl, rfl, rfl, trivial⟩) (by exact ⟨rfl, rfl, rfl, rfl, trivial⟩) ?_ ?_
                · exact ⟨Nat.zero_le _, by omega, hW⟩
                · intro Y a i L1 K1 e1 e2 hI hY hN
                  dsimp only [apV, apR, List.cons_append, List.nil_append] at e1 e2
                  subst e1 e2
                  iterate 2 (refine sq ?_)
                  refine rg ?_
                  refine st (h := O) ?_
                  refine st (h := sdFA) ?_
                  refine st (h := sdL) ?_
                  iterate 2 (refine st (h := O) ?_)
                  refine nl ?_
                  refine cD (fun c2 => ?_) (fun c2 => ?_)
                  · obtain ⟨hi, ha, hw⟩ := hI
                    have hil : i < path.length := by first | omega | (simp at c2; omega)
                    try (subst hwe; exact absurd hil (by simp))
                    all_goals
                      rw [drop_cons hil] at hw
                      obtain ⟨⟨hak, hkl, hleg⟩, hnf, hft, hnx⟩ := hw
                      have hr : look (((F.add Y1).add Y2).add Y) ⟨wb, wo + (i : Int).toNat * 1, none⟩ = some (.int .i64 (ints path i)) := by
                        rw [show wo + (i : Int).toNat * 1 = wo + i from by omega]
                        exact hN.le _ _ (hwr i _ (ints_get hil))
                      have hLg : ∀ G w, RItems G w l → C0 Try.prog 23 [w, .int .i64 (ints path i)] G (.bool true) := fun G w h => by have := Legal_C G w l (ints path i) h; rwa [hg, hleg, Bool.true_and] at this
                      refine sk ?_
                      refine sq ?_
                      refine bl ?_
                      refine sq ?_
                      refine rg ?_
                      refine st (h := sdFA) ?_
                      refine st (h := sdL) ?_
                      refine st (h := O) ?_
                      refine st (h := (sdX (z := 1))) ?_
                      refine st (h := (by first | exact sdLG | exact sdW)) ?_
                      refine st (h := O) ?_
                      refine nl ?_
                      iterate 2 (refine sq ?_)
                      refine rg ?_
                      iterate 4 (refine st (h := O) ?_)
                      refine gD (fun g55 => ?_) (fun g55 => ?_)
                      · omega
                      · refine sg (h := O) ?_
                        iterate 3 (refine sg (h := O) ?_)
                        iterate 2 (refine st (h := O) ?_)
                        refine gD (fun g61 => ?_) (fun g61 => ?_)
                        · omega
                        · refine sg (h := O) ?_
                          refine clgC (h := by exact fun ι hV hl => Copy_C _ _ l ((((hv.le hN1.le).le hN2.le).le hN.le).le hl) hl3 hgl) ?_
                          intro p3 Y3 hQ3 hpv3 hpp3 hN3
                          obtain ⟨hp3, hI3⟩ := hQ3
                          rcases hp3 with ⟨pb3, po3, pn3, pc3, rfl⟩ | ⟨pn3, pc3, rfl⟩
                          all_goals
                            refine sg (h := O) ?_
                            refine clg (h := by exact fun ι hV hl => hLg _ _ ((hI3 _ hN3.rows).le hl)) ?_
                            refine sg (h := O) ?_
                            refine st (h := O) ?_
                            refine nl ?_
                            refine cB (fun c3 => ?_) (fun c3 => ?_)
                            · exact absurd c3 (by decide)
                            · refine sk ?_
                              iterate 2 (refine sq ?_)
                              refine rg ?_
                              refine st (h := O) ?_
                              refine st (h := sdA) ?_
                              refine st (h := O) ?_
                              refine nl ?_
                              refine bl ?_
                              refine J.loop1 (α := Int) (fun n => a < n ∧ n ≤ ints path i) (fun n => [(10, .int .i64 n)]) [(0, _), (3, _), (5, _), (7, _), (8, _), (9, _)] (fun n => []) [(5, _), (3, _)] (fun n => (ints path i - n).toNat) (a + 1) (by exact ⟨rfl, trivial⟩) (by exact ⟨rfl, rfl, rfl, rfl, rfl, rfl, trivial⟩) (by exact ⟨rfl, rfl, rfl, rfl, trivial⟩) ?_ ?_
                              · exact ⟨by omega, by omega⟩
                              · intro n L1 K1 e1 e2 hI
                                dsimp only [apV, apR, List.cons_append, List.nil_append] at e1 e2
                                subst e1 e2
                                iterate 2 (refine sq ?_)
                                refine rg ?_
                                iterate 3 (refine st (h := O) ?_)
                                refine nl ?_
                                refine cD (fun c4 => ?_) (fun c4 => ?_)
                                · obtain ⟨hn1, hn2⟩ := hI
                                  obtain ⟨n', rfl⟩ := Int.eq_ofNat_of_zero_le (show 0 ≤ n by omega)
                                  have hnl : n' < l.length := by omega
                                  have hle := ((hN1.le.trans hN2.le).trans hN.le)
                                  obtain ⟨q0, q4⟩ := hcell n' hnl
                                  replace q0 := hN3.le _ _ (hle _ _ q0)
                                  replace q4 := hN3.le _ _ (hle _ _ q4)
                                  have hnf' := hnf n' (by omega) (by omega)
                                  refine sk ?_
                                  refine sq ?_
                                  refine bl ?_
                                  refine sq ?_
                                  refine rg ?_
                                  iterate 2 (refine st (h := O) ?_)
                                  refine st (h := (sdX (z := 11))) ?_
                                  refine st (h := sdFA) ?_
                                  refine st (h := (by first | exact sdLG | exact sdW)) ?_
                                  iterate 2 (refine st (h := O) ?_)
                                  refine gD (fun g81 => ?_) (fun g81 => ?_)
                                  · refine sg (h := O) ?_
                                    refine sg (h := O) ?_
                                    refine sg (h := (sdX (z := 11))) ?_
                                    refine sg (h := sdFA) ?_
                                    refine sg (h := (by first | exact sdLG | exact sdW)) ?_
                                    refine sg (h := O) ?_
                                    refine st (h := O) ?_
                                    refine nl ?_
                                    refine cD (fun c5 => ?_) (fun c5 => ?_)
                                    · simp only [forceB, decide_eq_false_iff_not] at hnf'; exact absurd (by omega) hnf'
                                    · refine sk ?_
                                      refine bk ?_
                                      refine rg ?_
                                      refine st (h := O) ?_
                                      refine st (h := sdA) ?_
                                      refine st (h := O) ?_
                                      refine nl ?_
                                      refine bk1 (_) (by exact ⟨rfl, trivial⟩) (by exact ⟨rfl, rfl, rfl, rfl, rfl, rfl, trivial⟩) (by exact ⟨rfl, rfl, rfl, rfl, trivial⟩) ?_ ?_
                                      · omega
                                      · exact ⟨by omega, by omega⟩
                                  · refine sp ?_
                                    iterate 5 (refine sp ?_)
                                    refine st (h := O) ?_
                                    refine nl ?_
                                    refine cF ?_
                                    refine sk ?_
                                    refine bk ?_
                                    refine rg ?_
                                    refine st (h := O) ?_
                                    refine st (h := sdA) ?_
                                    refine st (h := O) ?_
                                    refine nl ?_
                                    refine bk1 (_) (by exact ⟨rfl, trivial⟩) (by exact ⟨rfl, rfl, rfl, rfl, rfl, rfl, trivial⟩) (by exact ⟨rfl, rfl, rfl, rfl, trivial⟩) ?_ ?_
                                    · omega
                                    · exact ⟨by omega, by omega⟩
                                · refine ex ?_
                                  iterate 2 (refine sq ?_)
                                  refine dr 11 [5, 3] [0, 1, 2, 3, 5, 6, 7, 1004, 1008, 9, 10] ?_
                                  refine dt (hv := by exact sdFA) ?_
                                  refine dt (hv := by exact sdL) ?_
                                  refine dt (hv := by exact O) ?_
                                  refine dgB (fun g91 => ?_) (fun g91 => ?_)
                                  · have hFt : ∀ G w, RItems G w l → C0 Try.prog 24 [w, .int .i64 a, .int .i64 (ints path i), .agg #[.int .i64 xw, .int .i64 tol, .int .i64 line, .int .i64 twice, .int .i64 odd]] G (.bool true) := fun G w h => by
                                      have := Fits_C G w l a (ints path i) ⟨xw, tol, line, twice, odd⟩ h
                                      rwa [hft g91] at this
                                    iterate 3 (refine dg (hv := by exact O) ?_)
                                    refine dg (hv := by exact sdLN) ?_
                                    refine dclgC (hkp := by first | exact Kept.all | exact Kept.k0 | exact Kept.kY | exact Kept.kYY | exact Kept.kY3) (h := by exact fun ι hV hl => Copy_C _ _ l (((((hv.le hN1.le).le hN2.le).le hN.le).le hN3.le).le hl) hl3 hgl) ?_
                                    intro p5 Y5 hQ5 hpv5 hpp5 hN5
                                    obtain ⟨hp5, hI5⟩ := hQ5
                                    rcases hp5 with ⟨pb5, po5, pn5, pc5, rfl⟩ | ⟨pn5, pc5, rfl⟩
                                    all_goals
                                      refine dclg (hkp := by first | exact Kept.all | exact Kept.k0 | exact Kept.kY | exact Kept.kYY | exact Kept.kY3) (h := by exact fun ι hV hl => hFt _ _ ((hI5 _ hN5.rows).le hl)) ?_
                                      refine dg (hv := by exact O) ?_
                                      refine dt (hv := by exact O) ?_
                                      refine dn ?_
                                      refine cB (fun c6 => ?_) (fun c6 => ?_)
                                      · exact absurd c6 (by decide)
                                      · refine sk ?_
                                        refine rg ?_
                                        iterate 2 (refine st (h := O) ?_)
                                        refine nl ?_
                                        refine bk ?_
                                        refine rg ?_
                                        refine st (h := O) ?_
                                        refine st (h := sdA) ?_
                                        refine st (h := O) ?_
                                        refine nl ?_
                                        refine gbk2 ((Y5 ++ Y3) ++ Y) (ints path i) (i + 1) (by exact ⟨rfl, rfl, trivial⟩) (by exact ⟨rfl, rfl, rfl, trivial⟩) (by exact ⟨rfl, rfl, rfl, rfl, trivial⟩) (by first | rfl | exact add_add _ _ _ | (rw [add_add, add_add])) ?_ ?_ ?_
                                        · exact PlainRows.app hY (PlainRows.app hpp3 hpp5)
                                        · omega
                                        · exact ⟨by omega, by omega, hnx⟩
                                  · refine dp ?_
                                    iterate 3 (refine dp ?_)
                                    iterate 2 (refine dpe ?_)
                                    refine dp ?_
                                    refine dt (hv := by exact O) ?_
                                    refine dn ?_
                                    refine cF ?_
                                    refine sk ?_
                                    refine rg ?_
                                    iterate 2 (refine st (h := O) ?_)
                                    refine nl ?_
                                    refine bk ?_
                                    refine rg ?_
                                    refine st (h := O) ?_
                                    refine st (h := sdA) ?_
                                    refine st (h := O) ?_
                                    refine nl ?_
                                    refine gbk2 (Y3 ++ Y) (ints path i) (i + 1) (by exact ⟨rfl, rfl, trivial⟩) (by exact ⟨rfl, rfl, rfl, trivial⟩) (by exact ⟨rfl, rfl, rfl, rfl, trivial⟩) (by first | rfl | exact add_add _ _ _ | (rw [add_add, add_add])) ?_ ?_ ?_
                                    · exact PlainRows.app hY hpp3
                                    · omega
                                    · exact ⟨by omega, by omega, hnx⟩
                  · obtain ⟨hi, ha, hw⟩ := hI
                    obtain rfl : i = path.length := by first | omega | (have := congrArg List.length hwe; simp only [List.length_nil] at this; omega)
                    rw [List.drop_length] at hw
                    simp only [wholeB] at hw
                    refine ex ?_
                    refine sq ?_
                    refine rg ?_
                    iterate 3 (refine st (h := O) ?_)
                    refine st (h := sdS) ?_
                    iterate 2 (refine st (h := O) ?_)
                    refine gD (fun g106 => ?_) (fun g106 => ?_)
                    · refine clg (h := by exact fun ι hV hl => wakes_C _) ?_
                      iterate 2 (refine st (h := O) ?_)
                      refine nl ?_
                      first
                        | (rw [add_add, add_add]
                           refine J.dropF ?_
                           exact rt ⟨rfl, rfl⟩)
                        | (rw [add_add]
                           refine J.dropF ?_
                           exact rt ⟨rfl, rfl⟩)
                    · exact absurd hw g106
          · refine jal (hkp := by first | exact Kept.all | exact Kept.k0 | exact Kept.kY | exact Kept.kYY | exact Kept.kY3) ?_
            refine dclC (hkp := by first | exact Kept.all | exact Kept.k0 | exact Kept.kY | exact Kept.kYY | exact Kept.kY3) (h := by exact fun ι hV hl => hBr _ _ ((hI1 _ hN1.rows).le hl)) ?_
            intro u Y2 hQ2 hpv2 hpp2 hN2
            obtain ⟨w, rfl, _, hI2⟩ := hQ2
            have hIw := hI2 _ hN2.rows
            rcases hIw with ⟨wb, wo, wc, rfl, hw63, hwr⟩ | ⟨rfl, hwe⟩
            all_goals
              iterate 2 (refine dt (hv := by exact O) ?_)
              refine dq (hv := by exact fun _ _ => O) ?_
              refine dso (hkp := by first | exact Kept.all | exact Kept.k0 | exact Kept.kY | exact Kept.kYY | exact Kept.kY3) ?_
              refine dq (hv := by exact fun _ _ => O) ?_
              refine dn ?_
              iterate 2 (refine sq ?_)
              refine rg ?_
              iterate 2 (refine st (h := O) ?_)
              refine nl ?_
              refine cN (fun c1 => ?_) (fun c1 => ?_)
              · obtain ⟨rfl, rfl, rfl⟩ := hB.1 (by first | exact c1 | simpa using c1)
                refine sq ?_
                refine rg ?_
                refine st (h := sdFA) ?_
                refine st (h := sdL) ?_
                iterate 3 (refine st (h := O) ?_)
                refine gD (fun g27 => ?_) (fun g27 => ?_)
                · refine sg (h := sdFA) ?_
                  refine sg (h := sdL) ?_
                  refine sg (h := O) ?_
                  iterate 2 (refine st (h := O) ?_)
                  refine gB (fun g32 => ?_) (fun g32 => ?_)
                  · refine sg (h := sdFA) ?_
                    refine sg (h := sdL) ?_
                    refine sg (h := O) ?_
                    iterate 2 (refine st (h := O) ?_)
                    refine gD (fun g37 => ?_) (fun g37 => ?_)
                    · refine clg (h := by exact fun ι hV hl => wakes_C _) ?_
                      iterate 2 (refine st (h := O) ?_)
                      refine nl ?_
                      first
                        | (rw [add_add, add_add]
                           refine J.dropF ?_
                           exact rt ⟨rfl, rfl⟩)
                        | (rw [add_add]
                           refine J.dropF ?_
                           exact rt ⟨rfl, rfl⟩)
                    · exact absurd rfl g37
                  · simp at g32
                · exact absurd rfl g27
              · obtain ⟨hg, hW⟩ := hB.2 (by first | exact Classical.byContradiction c1 | simpa using c1)
                refine sk ?_
                refine sq ?_
                refine rg ?_
                refine st (h := O) ?_
                refine nl ?_
                iterate 2 (refine sq ?_)
                refine rg ?_
                refine st (h := O) ?_
                refine nl ?_
                refine bl ?_
                refine J.gloop2 (α := Int) (β := Nat) (fun Y a i => i ≤ path.length ∧ -1 ≤ a ∧ wholeB l ⟨xw, tol, line, twice, odd⟩ fits a (path.drop i)) (fun a i => [(7, .int .i64 a), (8, .int .i64 i)]) [(0, _), (3, _), (5, _)] (fun a i => []) [(5, _), (3, _)] (fun a i => path.length - i) (-1) (0) (by exact ⟨rfl, rfl, trivial⟩) (by exact ⟨rfl, rfl, rfl, trivial⟩) (by exact ⟨rfl, rfl, rfl, rfl, trivial⟩) ?_ ?_
                · exact ⟨Nat.zero_le _, by omega, hW⟩
                · intro Y a i L1 K1 e1 e2 hI hY hN
                  dsimp only [apV, apR, List.cons_append, List.nil_append] at e1 e2
                  subst e1 e2
                  iterate 2 (refine sq ?_)
                  refine rg ?_
                  refine st (h := O) ?_
                  refine st (h := sdFA) ?_
                  refine st (h := sdL) ?_
                  iterate 2 (refine st (h := O) ?_)
                  refine nl ?_
                  refine cD (fun c2 => ?_) (fun c2 => ?_)
                  · obtain ⟨hi, ha, hw⟩ := hI
                    have hil : i < path.length := by first | omega | (simp at c2; omega)
                    try (subst hwe; exact absurd hil (by simp))
                    all_goals
                      rw [drop_cons hil] at hw
                      obtain ⟨⟨hak, hkl, hleg⟩, hnf, hft, hnx⟩ := hw
                      have hr : look (((F.add Y1).add Y2).add Y) ⟨wb, wo + (i : Int).toNat * 1, none⟩ = some (.int .i64 (ints path i)) := by
                        rw [show wo + (i : Int).toNat * 1 = wo + i from by omega]
                        exact hN.le _ _ (hwr i _ (ints_get hil))
                      have hLg : ∀ G w, RItems G w l → C0 Try.prog 23 [w, .int .i64 (ints path i)] G (.bool true) := fun G w h => by have := Legal_C G w l (ints path i) h; rwa [hg, hleg, Bool.true_and] at this
                      refine sk ?_
                      refine sq ?_
                      refine bl ?_
                      refine sq ?_
                      refine rg ?_
                      refine st (h := sdFA) ?_
                      refine st (h := sdL) ?_
                      refine st (h := O) ?_
                      refine st (h := (sdX (z := 1))) ?_
                      refine st (h := (by first | exact sdLG | exact sdW)) ?_
                      refine st (h := O) ?_
                      refine nl ?_
                      iterate 2 (refine sq ?_)
                      refine rg ?_
                      iterate 4 (refine st (h := O) ?_)
                      refine gD (fun g55 => ?_) (fun g55 => ?_)
                      · omega
                      · refine sg (h := O) ?_
                        iterate 3 (refine sg (h := O) ?_)
                        iterate 2 (refine st (h := O) ?_)
                        refine gD (fun g61 => ?_) (fun g61 => ?_)
                        · omega
                        · refine sg (h := O) ?_
                          refine clgC (h := by exact fun ι hV hl => Copy_C _ _ l ((((hv.le hN1.le).le hN2.le).le hN.le).le hl) hl3 hgl) ?_
                          intro p3 Y3 hQ3 hpv3 hpp3 hN3
                          obtain ⟨hp3, hI3⟩ := hQ3
                          rcases hp3 with ⟨pb3, po3, pn3, pc3, rfl⟩ | ⟨pn3, pc3, rfl⟩
                          all_goals
                            refine sg (h := O) ?_
                            refine clg (h := by exact fun ι hV hl => hLg _ _ ((hI3 _ hN3.rows).le hl)) ?_
                            refine sg (h := O) ?_
                            refine st (h := O) ?_
                            refine nl ?_
                            refine cB (fun c3 => ?_) (fun c3 => ?_)
                            · exact absurd c3 (by decide)
                            · refine sk ?_
                              iterate 2 (refine sq ?_)
                              refine rg ?_
                              refine st (h := O) ?_
                              refine st (h := sdA) ?_
                              refine st (h := O) ?_
                              refine nl ?_
                              refine bl ?_
                              refine J.loop1 (α := Int) (fun n => a < n ∧ n ≤ ints path i) (fun n => [(10, .int .i64 n)]) [(0, _), (3, _), (5, _), (7, _), (8, _), (9, _)] (fun n => []) [(5, _), (3, _)] (fun n => (ints path i - n).toNat) (a + 1) (by exact ⟨rfl, trivial⟩) (by exact ⟨rfl, rfl, rfl, rfl, rfl, rfl, trivial⟩) (by exact ⟨rfl, rfl, rfl, rfl, trivial⟩) ?_ ?_
                              · exact ⟨by omega, by omega⟩
                              · intro n L1 K1 e1 e2 hI
                                dsimp only [apV, apR, List.cons_append, List.nil_append] at e1 e2
                                subst e1 e2
                                iterate 2 (refine sq ?_)
                                refine rg ?_
                                iterate 3 (refine st (h := O) ?_)
                                refine nl ?_
                                refine cD (fun c4 => ?_) (fun c4 => ?_)
                                · obtain ⟨hn1, hn2⟩ := hI
                                  obtain ⟨n', rfl⟩ := Int.eq_ofNat_of_zero_le (show 0 ≤ n by omega)
                                  have hnl : n' < l.length := by omega
                                  have hle := ((hN1.le.trans hN2.le).trans hN.le)
                                  obtain ⟨q0, q4⟩ := hcell n' hnl
                                  replace q0 := hN3.le _ _ (hle _ _ q0)
                                  replace q4 := hN3.le _ _ (hle _ _ q4)
                                  have hnf' := hnf n' (by omega) (by omega)
                                  refine sk ?_
                                  refine sq ?_
                                  refine bl ?_
                                  refine sq ?_
                                  refine rg ?_
                                  iterate 2 (refine st (h := O) ?_)
                                  refine st (h := (sdX (z := 11))) ?_
                                  refine st (h := sdFA) ?_
                                  refine st (h := (by first | exact sdLG | exact sdW)) ?_
                                  iterate 2 (refine st (h := O) ?_)
                                  refine gD (fun g81 => ?_) (fun g81 => ?_)
                                  · refine sg (h := O) ?_
                                    refine sg (h := O) ?_
                                    refine sg (h := (sdX (z := 11))) ?_
                                    refine sg (h := sdFA) ?_
                                    refine sg (h := (by first | exact sdLG | exact sdW)) ?_
                                    refine sg (h := O) ?_
                                    refine st (h := O) ?_
                                    refine nl ?_
                                    refine cD (fun c5 => ?_) (fun c5 => ?_)
                                    · simp only [forceB, decide_eq_false_iff_not] at hnf'; exact absurd (by omega) hnf'
                                    · refine sk ?_
                                      refine bk ?_
                                      refine rg ?_
                                      refine st (h := O) ?_
                                      refine st (h := sdA) ?_
                                      refine st (h := O) ?_
                                      refine nl ?_
                                      refine bk1 (_) (by exact ⟨rfl, trivial⟩) (by exact ⟨rfl, rfl, rfl, rfl, rfl, rfl, trivial⟩) (by exact ⟨rfl, rfl, rfl, rfl, trivial⟩) ?_ ?_
                                      · omega
                                      · exact ⟨by omega, by omega⟩
                                  · refine sp ?_
                                    iterate 5 (refine sp ?_)
                                    refine st (h := O) ?_
                                    refine nl ?_
                                    refine cF ?_
                                    refine sk ?_
                                    refine bk ?_
                                    refine rg ?_
                                    refine st (h := O) ?_
                                    refine st (h := sdA) ?_
                                    refine st (h := O) ?_
                                    refine nl ?_
                                    refine bk1 (_) (by exact ⟨rfl, trivial⟩) (by exact ⟨rfl, rfl, rfl, rfl, rfl, rfl, trivial⟩) (by exact ⟨rfl, rfl, rfl, rfl, trivial⟩) ?_ ?_
                                    · omega
                                    · exact ⟨by omega, by omega⟩
                                · refine ex ?_
                                  iterate 2 (refine sq ?_)
                                  refine dr 11 [5, 3] [0, 1, 2, 3, 5, 6, 7, 1004, 1008, 9, 10] ?_
                                  refine dt (hv := by exact sdFA) ?_
                                  refine dt (hv := by exact sdL) ?_
                                  refine dt (hv := by exact O) ?_
                                  refine dgB (fun g91 => ?_) (fun g91 => ?_)
                                  · have hFt : ∀ G w, RItems G w l → C0 Try.prog 24 [w, .int .i64 a, .int .i64 (ints path i), .agg #[.int .i64 xw, .int .i64 tol, .int .i64 line, .int .i64 twice, .int .i64 odd]] G (.bool true) := fun G w h => by
                                      have := Fits_C G w l a (ints path i) ⟨xw, tol, line, twice, odd⟩ h
                                      rwa [hft g91] at this
                                    iterate 3 (refine dg (hv := by exact O) ?_)
                                    refine dg (hv := by exact sdLN) ?_
                                    refine dclgC (hkp := by first | exact Kept.all | exact Kept.k0 | exact Kept.kY | exact Kept.kYY | exact Kept.kY3) (h := by exact fun ι hV hl => Copy_C _ _ l (((((hv.le hN1.le).le hN2.le).le hN.le).le hN3.le).le hl) hl3 hgl) ?_
                                    intro p5 Y5 hQ5 hpv5 hpp5 hN5
                                    obtain ⟨hp5, hI5⟩ := hQ5
                                    rcases hp5 with ⟨pb5, po5, pn5, pc5, rfl⟩ | ⟨pn5, pc5, rfl⟩
                                    all_goals
                                      refine dclg (hkp := by first | exact Kept.all | exact Kept.k0 | exact Kept.kY | exact Kept.kYY | exact Kept.kY3) (h := by exact fun ι hV hl => hFt _ _ ((hI5 _ hN5.rows).le hl)) ?_
                                      refine dg (hv := by exact O) ?_
                                      refine dt (hv := by exact O) ?_
                                      refine dn ?_
                                      refine cB (fun c6 => ?_) (fun c6 => ?_)
                                      · exact absurd c6 (by decide)
                                      · refine sk ?_
                                        refine rg ?_
                                        iterate 2 (refine st (h := O) ?_)
                                        refine nl ?_
                                        refine bk ?_
                                        refine rg ?_
                                        refine st (h := O) ?_
                                        refine st (h := sdA) ?_
                                        refine st (h := O) ?_
                                        refine nl ?_
                                        refine gbk2 ((Y5 ++ Y3) ++ Y) (ints path i) (i + 1) (by exact ⟨rfl, rfl, trivial⟩) (by exact ⟨rfl, rfl, rfl, trivial⟩) (by exact ⟨rfl, rfl, rfl, rfl, trivial⟩) (by first | rfl | exact add_add _ _ _ | (rw [add_add, add_add])) ?_ ?_ ?_
                                        · exact PlainRows.app hY (PlainRows.app hpp3 hpp5)
                                        · omega
                                        · exact ⟨by omega, by omega, hnx⟩
                                  · refine dp ?_
                                    iterate 3 (refine dp ?_)
                                    iterate 2 (refine dpe ?_)
                                    refine dp ?_
                                    refine dt (hv := by exact O) ?_
                                    refine dn ?_
                                    refine cF ?_
                                    refine sk ?_
                                    refine rg ?_
                                    iterate 2 (refine st (h := O) ?_)
                                    refine nl ?_
                                    refine bk ?_
                                    refine rg ?_
                                    refine st (h := O) ?_
                                    refine st (h := sdA) ?_
                                    refine st (h := O) ?_
                                    refine nl ?_
                                    refine gbk2 (Y3 ++ Y) (ints path i) (i + 1) (by exact ⟨rfl, rfl, trivial⟩) (by exact ⟨rfl, rfl, rfl, trivial⟩) (by exact ⟨rfl, rfl, rfl, rfl, trivial⟩) (by first | rfl | exact add_add _ _ _ | (rw [add_add, add_add])) ?_ ?_ ?_
                                    · exact PlainRows.app hY hpp3
                                    · omega
                                    · exact ⟨by omega, by omega, hnx⟩
                  · obtain ⟨hi, ha, hw⟩ := hI
                    obtain rfl : i = path.length := by first | omega | (have := congrArg List.length hwe; simp only [List.length_nil] at this; omega)
                    rw [List.drop_length] at hw
                    simp only [wholeB] at hw
                    refine ex ?_
                    refine sq ?_
                    refine rg ?_
                    iterate 3 (refine st (h := O) ?_)
                    refine st (h := sdS) ?_
                    iterate 2 (refine st (h := O) ?_)
                    refine gD (fun g106 => ?_) (fun g106 => ?_)
                    · refine clg (h := by exact fun ι hV hl => wakes_C _) ?_
                      iterate 2 (refine st (h := O) ?_)
                      refine nl ?_
                      first
                        | (rw [add_add, add_add]
                           refine J.dropF ?_
                           exact rt ⟨rfl, rfl⟩)
                        | (rw [add_add]
                           refine J.dropF ?_
                           exact rt ⟨rfl, rfl⟩)
                    · exact absurd hw g106
      · refine jal (hkp := by first | exact Kept.all | exact Kept.k0 | exact Kept.kY | exact Kept.kYY | exact Kept.kY3) ?_
        refine dclC (hkp := by first | exact Kept.all | exact Kept.k0 | exact Kept.kY | exact Kept.kYY | exact Kept.kY3) (h := by exact fun ι hV hl => Copy_C _ _ l (hv.le hl) hl3 hgl) ?_
        intro p Y1 hQ1 hpv1 hpp1 hN1
        obtain ⟨hp, hI1⟩ := hQ1
        rcases hp with ⟨pb, po, pn, pc, rfl⟩ | ⟨pn, pc, rfl⟩
        all_goals
          refine dclC (hkp := by first | exact Kept.all | exact Kept.k0 | exact Kept.kY | exact Kept.kYY | exact Kept.kY3) (h := by exact fun ι hV hl => hBr _ _ ((hI1 _ hN1.rows).le hl)) ?_
          intro u Y2 hQ2 hpv2 hpp2 hN2
          obtain ⟨w, rfl, _, hI2⟩ := hQ2
          have hIw := hI2 _ hN2.rows
          rcases hIw with ⟨wb, wo, wc, rfl, hw63, hwr⟩ | ⟨rfl, hwe⟩
          all_goals
            iterate 2 (refine dt (hv := by exact O) ?_)
            refine dq (hv := by exact fun _ _ => O) ?_
            refine dso (hkp := by first | exact Kept.all | exact Kept.k0 | exact Kept.kY | exact Kept.kYY | exact Kept.kY3) ?_
            refine dq (hv := by exact fun _ _ => O) ?_
            refine dn ?_
            iterate 2 (refine sq ?_)
            refine rg ?_
            iterate 2 (refine st (h := O) ?_)
            refine nl ?_
            refine cN (fun c1 => ?_) (fun c1 => ?_)
            · obtain ⟨rfl, rfl, rfl⟩ := hB.1 (by first | exact c1 | simpa using c1)
              refine sq ?_
              refine rg ?_
              refine st (h := sdFA) ?_
              refine st (h := sdL) ?_
              iterate 3 (refine st (h := O) ?_)
              refine gD (fun g27 => ?_) (fun g27 => ?_)
              · refine sg (h := sdFA) ?_
                refine sg (h := sdL) ?_
                refine sg (h := O) ?_
                iterate 2 (refine st (h := O) ?_)
                refine gB (fun g32 => ?_) (fun g32 => ?_)
                · refine sg (h := sdFA) ?_
                  refine sg (h := sdL) ?_
                  refine sg (h := O) ?_
                  iterate 2 (refine st (h := O) ?_)
                  refine gD (fun g37 => ?_) (fun g37 => ?_)
                  · refine clg (h := by exact fun ι hV hl => wakes_C _) ?_
                    iterate 2 (refine st (h := O) ?_)
                    refine nl ?_
                    first
                      | (rw [add_add, add_add]
                         refine J.dropF ?_
                         exact rt ⟨rfl, rfl⟩)
                      | (rw [add_add]
                         refine J.dropF ?_
                         exact rt ⟨rfl, rfl⟩)
                  · exact absurd rfl g37
                · simp at g32
              · exact absurd rfl g27
            · obtain ⟨hg, hW⟩ := hB.2 (by first | exact Classical.byContradiction c1 | simpa using c1)
              refine sk ?_
              refine sq ?_
              refine rg ?_
              refine st (h := O) ?_
              refine nl ?_
              iterate 2 (refine sq ?_)
              refine rg ?_
              refine st (h := O) ?_
              refine nl ?_
              refine bl ?_
              refine J.gloop2 (α := Int) (β := Nat) (fun Y a i => i ≤ path.length ∧ -1 ≤ a ∧ wholeB l ⟨xw, tol, line, twice, odd⟩ fits a (path.drop i)) (fun a i => [(7, .int .i64 a), (8, .int .i64 i)]) [(0, _), (3, _), (5, _)] (fun a i => []) [(5, _), (3, _)] (fun a i => path.length - i) (-1) (0) (by exact ⟨rfl, rfl, trivial⟩) (by exact ⟨rfl, rfl, rfl, trivial⟩) (by exact ⟨rfl, rfl, rfl, rfl, trivial⟩) ?_ ?_
              · exact ⟨Nat.zero_le _, by omega, hW⟩
              · intro Y a i L1 K1 e1 e2 hI hY hN
                dsimp only [apV, apR, List.cons_append, List.nil_append] at e1 e2
                subst e1 e2
                iterate 2 (refine sq ?_)
                refine rg ?_
                refine st (h := O) ?_
                refine st (h := sdFA) ?_
                refine st (h := sdL) ?_
                iterate 2 (refine st (h := O) ?_)
                refine nl ?_
                refine cD (fun c2 => ?_) (fun c2 => ?_)
                · obtain ⟨hi, ha, hw⟩ := hI
                  have hil : i < path.length := by first | omega | (simp at c2; omega)
                  try (subst hwe; exact absurd hil (by simp))
                  all_goals
                    rw [drop_cons hil] at hw
                    obtain ⟨⟨hak, hkl, hleg⟩, hnf, hft, hnx⟩ := hw
                    have hr : look (((F.add Y1).add Y2).add Y) ⟨wb, wo + (i : Int).toNat * 1, none⟩ = some (.int .i64 (ints path i)) := by
                      rw [show wo + (i : Int).toNat * 1 = wo + i from by omega]
                      exact hN.le _ _ (hwr i _ (ints_get hil))
                    have hLg : ∀ G w, RItems G w l → C0 Try.prog 23 [w, .int .i64 (ints path i)] G (.bool true) := fun G w h => by have := Legal_C G w l (ints path i) h; rwa [hg, hleg, Bool.true_and] at this
                    refine sk ?_
                    refine sq ?_
                    refine bl ?_
                    refine sq ?_
                    refine rg ?_
                    refine st (h := sdFA) ?_
                    refine st (h := sdL) ?_
                    refine st (h := O) ?_
                    refine st (h := (sdX (z := 1))) ?_
                    refine st (h := (by first | exact sdLG | exact sdW)) ?_
                    refine st (h := O) ?_
                    refine nl ?_
                    iterate 2 (refine sq ?_)
                    refine rg ?_
                    iterate 4 (refine st (h := O) ?_)
                    refine gD (fun g55 => ?_) (fun g55 => ?_)
                    · omega
                    · refine sg (h := O) ?_
                      iterate 3 (refine sg (h := O) ?_)
                      iterate 2 (refine st (h := O) ?_)
                      refine gD (fun g61 => ?_) (fun g61 => ?_)
                      · omega
                      · refine sg (h := O) ?_
                        refine clgC (h := by exact fun ι hV hl => Copy_C _ _ l ((((hv.le hN1.le).le hN2.le).le hN.le).le hl) hl3 hgl) ?_
                        intro p3 Y3 hQ3 hpv3 hpp3 hN3
                        obtain ⟨hp3, hI3⟩ := hQ3
                        rcases hp3 with ⟨pb3, po3, pn3, pc3, rfl⟩ | ⟨pn3, pc3, rfl⟩
                        all_goals
                          refine sg (h := O) ?_
                          refine clg (h := by exact fun ι hV hl => hLg _ _ ((hI3 _ hN3.rows).le hl)) ?_
                          refine sg (h := O) ?_
                          refine st (h := O) ?_
                          refine nl ?_
                          refine cB (fun c3 => ?_) (fun c3 => ?_)
                          · exact absurd c3 (by decide)
                          · refine sk ?_
                            iterate 2 (refine sq ?_)
                            refine rg ?_
                            refine st (h := O) ?_
                            refine st (h := sdA) ?_
                            refine st (h := O) ?_
                            refine nl ?_
                            refine bl ?_
                            refine J.loop1 (α := Int) (fun n => a < n ∧ n ≤ ints path i) (fun n => [(10, .int .i64 n)]) [(0, _), (3, _), (5, _), (7, _), (8, _), (9, _)] (fun n => []) [(5, _), (3, _)] (fun n => (ints path i - n).toNat) (a + 1) (by exact ⟨rfl, trivial⟩) (by exact ⟨rfl, rfl, rfl, rfl, rfl, rfl, trivial⟩) (by exact ⟨rfl, rfl, rfl, rfl, trivial⟩) ?_ ?_
                            · exact ⟨by omega, by omega⟩
                            · intro n L1 K1 e1 e2 hI
                              dsimp only [apV, apR, List.cons_append, List.nil_append] at e1 e2
                              subst e1 e2
                              iterate 2 (refine sq ?_)
                              refine rg ?_
                              iterate 3 (refine st (h := O) ?_)
                              refine nl ?_
                              refine cD (fun c4 => ?_) (fun c4 => ?_)
                              · obtain ⟨hn1, hn2⟩ := hI
                                obtain ⟨n', rfl⟩ := Int.eq_ofNat_of_zero_le (show 0 ≤ n by omega)
                                have hnl : n' < l.length := by omega
                                have hle := ((hN1.le.trans hN2.le).trans hN.le)
                                obtain ⟨q0, q4⟩ := hcell n' hnl
                                replace q0 := hN3.le _ _ (hle _ _ q0)
                                replace q4 := hN3.le _ _ (hle _ _ q4)
                                have hnf' := hnf n' (by omega) (by omega)
                                refine sk ?_
                                refine sq ?_
                                refine bl ?_
                                refine sq ?_
                                refine rg ?_
                                iterate 2 (refine st (h := O) ?_)
                                refine st (h := (sdX (z := 11))) ?_
                                refine st (h := sdFA) ?_
                                refine st (h := (by first | exact sdLG | exact sdW)) ?_
                                iterate 2 (refine st (h := O) ?_)
                                refine gD (fun g81 => ?_) (fun g81 => ?_)
                                · refine sg (h := O) ?_
                                  refine sg (h := O) ?_
                                  refine sg (h := (sdX (z := 11))) ?_
                                  refine sg (h := sdFA) ?_
                                  refine sg (h := (by first | exact sdLG | exact sdW)) ?_
                                  refine sg (h := O) ?_
                                  refine st (h := O) ?_
                                  refine nl ?_
                                  refine cD (fun c5 => ?_) (fun c5 => ?_)
                                  · simp only [forceB, decide_eq_false_iff_not] at hnf'; exact absurd (by omega) hnf'
                                  · refine sk ?_
                                    refine bk ?_
                                    refine rg ?_
                                    refine st (h := O) ?_
                                    refine st (h := sdA) ?_
                                    refine st (h := O) ?_
                                    refine nl ?_
                                    refine bk1 (_) (by exact ⟨rfl, trivial⟩) (by exact ⟨rfl, rfl, rfl, rfl, rfl, rfl, trivial⟩) (by exact ⟨rfl, rfl, rfl, rfl, trivial⟩) ?_ ?_
                                    · omega
                                    · exact ⟨by omega, by omega⟩
                                · refine sp ?_
                                  iterate 5 (refine sp ?_)
                                  refine st (h := O) ?_
                                  refine nl ?_
                                  refine cF ?_
                                  refine sk ?_
                                  refine bk ?_
                                  refine rg ?_
                                  refine st (h := O) ?_
                                  refine st (h := sdA) ?_
                                  refine st (h := O) ?_
                                  refine nl ?_
                                  refine bk1 (_) (by exact ⟨rfl, trivial⟩) (by exact ⟨rfl, rfl, rfl, rfl, rfl, rfl, trivial⟩) (by exact ⟨rfl, rfl, rfl, rfl, trivial⟩) ?_ ?_
                                  · omega
                                  · exact ⟨by omega, by omega⟩
                              · refine ex ?_
                                iterate 2 (refine sq ?_)
                                refine dr 11 [5, 3] [0, 1, 2, 3, 5, 6, 7, 1004, 1008, 9, 10] ?_
                                refine dt (hv := by exact sdFA) ?_
                                refine dt (hv := by exact sdL) ?_
                                refine dt (hv := by exact O) ?_
                                refine dgB (fun g91 => ?_) (fun g91 => ?_)
                                · have hFt : ∀ G w, RItems G w l → C0 Try.prog 24 [w, .int .i64 a, .int .i64 (ints path i), .agg #[.int .i64 xw, .int .i64 tol, .int .i64 line, .int .i64 twice, .int .i64 odd]] G (.bool true) := fun G w h => by
                                    have := Fits_C G w l a (ints path i) ⟨xw, tol, line, twice, odd⟩ h
                                    rwa [hft g91] at this
                                  iterate 3 (refine dg (hv := by exact O) ?_)
                                  refine dg (hv := by exact sdLN) ?_
                                  refine dclgC (hkp := by first | exact Kept.all | exact Kept.k0 | exact Kept.kY | exact Kept.kYY | exact Kept.kY3) (h := by exact fun ι hV hl => Copy_C _ _ l (((((hv.le hN1.le).le hN2.le).le hN.le).le hN3.le).le hl) hl3 hgl) ?_
                                  intro p5 Y5 hQ5 hpv5 hpp5 hN5
                                  obtain ⟨hp5, hI5⟩ := hQ5
                                  rcases hp5 with ⟨pb5, po5, pn5, pc5, rfl⟩ | ⟨pn5, pc5, rfl⟩
                                  all_goals
                                    refine dclg (hkp := by first | exact Kept.all | exact Kept.k0 | exact Kept.kY | exact Kept.kYY | exact Kept.kY3) (h := by exact fun ι hV hl => hFt _ _ ((hI5 _ hN5.rows).le hl)) ?_
                                    refine dg (hv := by exact O) ?_
                                    refine dt (hv := by exact O) ?_
                                    refine dn ?_
                                    refine cB (fun c6 => ?_) (fun c6 => ?_)
                                    · exact absurd c6 (by decide)
                                    · refine sk ?_
                                      refine rg ?_
                                      iterate 2 (refine st (h := O) ?_)
                                      refine nl ?_
                                      refine bk ?_
                                      refine rg ?_
                                      refine st (h := O) ?_
                                      refine st (h := sdA) ?_
                                      refine st (h := O) ?_
                                      refine nl ?_
                                      refine gbk2 ((Y5 ++ Y3) ++ Y) (ints path i) (i + 1) (by exact ⟨rfl, rfl, trivial⟩) (by exact ⟨rfl, rfl, rfl, trivial⟩) (by exact ⟨rfl, rfl, rfl, rfl, trivial⟩) (by first | rfl | exact add_add _ _ _ | (rw [add_add, add_add])) ?_ ?_ ?_
                                      · exact PlainRows.app hY (PlainRows.app hpp3 hpp5)
                                      · omega
                                      · exact ⟨by omega, by omega, hnx⟩
                                · refine dp ?_
                                  iterate 3 (refine dp ?_)
                                  iterate 2 (refine dpe ?_)
                                  refine dp ?_
                                  refine dt (hv := by exact O) ?_
                                  refine dn ?_
                                  refine cF ?_
                                  refine sk ?_
                                  refine rg ?_
                                  iterate 2 (refine st (h := O) ?_)
                                  refine nl ?_
                                  refine bk ?_
                                  refine rg ?_
                                  refine st (h := O) ?_
                                  refine st (h := sdA) ?_
                                  refine st (h := O) ?_
                                  refine nl ?_
                                  refine gbk2 (Y3 ++ Y) (ints path i) (i + 1) (by exact ⟨rfl, rfl, trivial⟩) (by exact ⟨rfl, rfl, rfl, trivial⟩) (by exact ⟨rfl, rfl, rfl, rfl, trivial⟩) (by first | rfl | exact add_add _ _ _ | (rw [add_add, add_add])) ?_ ?_ ?_
                                  · exact PlainRows.app hY hpp3
                                  · omega
                                  · exact ⟨by omega, by omega, hnx⟩
                · obtain ⟨hi, ha, hw⟩ := hI
                  obtain rfl : i = path.length := by first | omega | (have := congrArg List.length hwe; simp only [List.length_nil] at this; omega)
                  rw [List.drop_length] at hw
                  simp only [wholeB] at hw
                  refine ex ?_
                  refine sq ?_
                  refine rg ?_
                  iterate 3 (refine st (h := O) ?_)
                  refine st (h := sdS) ?_
                  iterate 2 (refine st (h := O) ?_)
                  refine gD (fun g106 => ?_) (fun g106 => ?_)
                  · refine clg (h := by exact fun ι hV hl => wakes_C _) ?_
                    iterate 2 (refine st (h := O) ?_)
                    refine nl ?_
                    first
                      | (rw [add_add, add_add]
                         refine J.dropF ?_
                         exact rt ⟨rfl, rfl⟩)
                      | (rw [add_add]
                         refine J.dropF ?_
                         exact rt ⟨rfl, rfl⟩)
                  · exact absurd hw g106
  · subst hnil
    refine C.go hT Try.func6 Try.ntmps6 ?_
    refine sq ?_
    refine rg ?_
    refine bx ?_
    refine st (h := O) ?_
    refine nl ?_
    iterate 2 (refine sq ?_)
    refine rg ?_
    refine st (h := O) ?_
    refine cl (h := by exact fun ι hV hl => large_C _ _ [] (hv.le hl)) ?_
    refine nl ?_
    refine cB (fun c0 => ?_) (fun c0 => ?_)
    · refine sq ?_
      refine rg ?_
      refine cl (h := by exact fun ι hV hl => wakes_C _) ?_
      refine st (h := O) ?_
      refine nl ?_
      exact rt ⟨rfl, rfl⟩
    · have hl3 : ([] : List Item).length ≤ 3000 := by simp
      refine sk ?_
      refine sq ?_
      refine dr 8 [3] [0, 2, 5008] ?_
      refine dt (hv := by exact O) ?_
      refine dt (hv := by exact sdLN) ?_
      refine JD.alt (i := 1) (j := 7) [5007] [1001, 1003, 4, 5, 2006, 1008, 2009] ?_ ?_
      · refine jclC (hkp := by first | exact Kept.all | exact Kept.k0 | exact Kept.kY | exact Kept.kYY | exact Kept.kY3) (h := by exact fun ι hV hl => Copy_C _ _ [] (hv.le hl) hl3 hgl) ?_
        intro p Y1 hQ1 hpv1 hpp1 hN1
        obtain ⟨hp, hI1⟩ := hQ1
        rcases hp with ⟨pb, po, pn, pc, rfl⟩ | ⟨pn, pc, rfl⟩
        all_goals
          refine JD.alt (i := 3) (j := 7) [4, 5, 2006, 1007, 1008, 2009] [1003, 4, 5, 2006, 1008, 2009] ?_ ?_
          · refine jclC (hkp := by first | exact Kept.all | exact Kept.k0 | exact Kept.kY | exact Kept.kYY | exact Kept.kY3) (h := by exact fun ι hV hl => hBr _ _ ((hI1 _ hN1.rows).le hl)) ?_
            intro u Y2 hQ2 hpv2 hpp2 hN2
            obtain ⟨w, rfl, _, hI2⟩ := hQ2
            have hIw := hI2 _ hN2.rows
            rcases hIw with ⟨wb, wo, wc, rfl, hw63, hwr⟩ | ⟨rfl, hwe⟩
            all_goals
              iterate 2 (refine dt (hv := by exact O) ?_)
              refine dq (hv := by exact fun _ _ => O) ?_
              refine dal (hkp := by first | exact Kept.all | exact Kept.k0 | exact Kept.kY | exact Kept.kYY | exact Kept.kY3) ?_
              refine dso (hkp := by first | exact Kept.all | exact Kept.k0 | exact Kept.kY | exact Kept.kYY | exact Kept.kY3) ?_
              refine dq (hv := by exact fun _ _ => O) ?_
              refine dn ?_
              iterate 2 (refine sq ?_)
              refine rg ?_
              iterate 2 (refine st (h := O) ?_)
              refine nl ?_
              refine cN (fun c1 => ?_) (fun c1 => ?_)
              · obtain ⟨rfl, rfl, rfl⟩ := hB.1 (by first | exact c1 | simpa using c1)
                refine sq ?_
                refine rg ?_
                refine st (h := sdFA) ?_
                refine st (h := sdL) ?_
                iterate 3 (refine st (h := O) ?_)
                refine gD (fun g27 => ?_) (fun g27 => ?_)
                · refine sg (h := sdFA) ?_
                  refine sg (h := sdL) ?_
                  refine sg (h := O) ?_
                  iterate 2 (refine st (h := O) ?_)
                  refine gB (fun g32 => ?_) (fun g32 => ?_)
                  · refine sg (h := sdFA) ?_
                    refine sg (h := sdL) ?_
                    refine sg (h := O) ?_
                    iterate 2 (refine st (h := O) ?_)
                    refine gD (fun g37 => ?_) (fun g37 => ?_)
                    · refine clg (h := by exact fun ι hV hl => wakes_C _) ?_
                      iterate 2 (refine st (h := O) ?_)
                      refine nl ?_
                      rw [add_add]
                      refine J.dropF ?_
                      exact rt ⟨rfl, rfl⟩
                    · exact absurd rfl g37
                  · simp at g32
                · exact absurd rfl g27
              · have hg := (hB.2 (by first | exact Classical.byContradiction c1 | simpa using c1)).1
                exact absurd hg (by decide)
          · refine jal (hkp := by first | exact Kept.all | exact Kept.k0 | exact Kept.kY | exact Kept.kYY | exact Kept.kY3) ?_
            refine dclC (hkp := by first | exact Kept.all | exact Kept.k0 | exact Kept.kY | exact Kept.kYY | exact Kept.kY3) (h := by exact fun ι hV hl => hBr _ _ ((hI1 _ hN1.rows).le hl)) ?_
            intro u Y2 hQ2 hpv2 hpp2 hN2
            obtain ⟨w, rfl, _, hI2⟩ := hQ2
            have hIw := hI2 _ hN2.rows
            rcases hIw with ⟨wb, wo, wc, rfl, hw63, hwr⟩ | ⟨rfl, hwe⟩
            all_goals
              iterate 2 (refine dt (hv := by exact O) ?_)
              refine dq (hv := by exact fun _ _ => O) ?_
              refine dso (hkp := by first | exact Kept.all | exact Kept.k0 | exact Kept.kY | exact Kept.kYY | exact Kept.kY3) ?_
              refine dq (hv := by exact fun _ _ => O) ?_
              refine dn ?_
              iterate 2 (refine sq ?_)
              refine rg ?_
              iterate 2 (refine st (h := O) ?_)
              refine nl ?_
              refine cN (fun c1 => ?_) (fun c1 => ?_)
              · obtain ⟨rfl, rfl, rfl⟩ := hB.1 (by first | exact c1 | simpa using c1)
                refine sq ?_
                refine rg ?_
                refine st (h := sdFA) ?_
                refine st (h := sdL) ?_
                iterate 3 (refine st (h := O) ?_)
                refine gD (fun g27 => ?_) (fun g27 => ?_)
                · refine sg (h := sdFA) ?_
                  refine sg (h := sdL) ?_
                  refine sg (h := O) ?_
                  iterate 2 (refine st (h := O) ?_)
                  refine gB (fun g32 => ?_) (fun g32 => ?_)
                  · refine sg (h := sdFA) ?_
                    refine sg (h := sdL) ?_
                    refine sg (h := O) ?_
                    iterate 2 (refine st (h := O) ?_)
                    refine gD (fun g37 => ?_) (fun g37 => ?_)
                    · refine clg (h := by exact fun ι hV hl => wakes_C _) ?_
                      iterate 2 (refine st (h := O) ?_)
                      refine nl ?_
                      rw [add_add]
                      refine J.dropF ?_
                      exact rt ⟨rfl, rfl⟩
                    · exact absurd rfl g37
                  · simp at g32
                · exact absurd rfl g27
              · have hg := (hB.2 (by first | exact Classical.byContradiction c1 | simpa using c1)).1
                exact absurd hg (by decide)
      · refine jal (hkp := by first | exact Kept.all | exact Kept.k0 | exact Kept.kY | exact Kept.kYY | exact Kept.kY3) ?_
        refine dclC (hkp := by first | exact Kept.all | exact Kept.k0 | exact Kept.kY | exact Kept.kYY | exact Kept.kY3) (h := by exact fun ι hV hl => Copy_C _ _ [] (hv.le hl) hl3 hgl) ?_
        intro p Y1 hQ1 hpv1 hpp1 hN1
        obtain ⟨hp, hI1⟩ := hQ1
        rcases hp with ⟨pb, po, pn, pc, rfl⟩ | ⟨pn, pc, rfl⟩
        all_goals
          refine dclC (hkp := by first | exact Kept.all | exact Kept.k0 | exact Kept.kY | exact Kept.kYY | exact Kept.kY3) (h := by exact fun ι hV hl => hBr _ _ ((hI1 _ hN1.rows).le hl)) ?_
          intro u Y2 hQ2 hpv2 hpp2 hN2
          obtain ⟨w, rfl, _, hI2⟩ := hQ2
          have hIw := hI2 _ hN2.rows
          rcases hIw with ⟨wb, wo, wc, rfl, hw63, hwr⟩ | ⟨rfl, hwe⟩
          all_goals
            iterate 2 (refine dt (hv := by exact O) ?_)
            refine dq (hv := by exact fun _ _ => O) ?_
            refine dso (hkp := by first | exact Kept.all | exact Kept.k0 | exact Kept.kY | exact Kept.kYY | exact Kept.kY3) ?_
            refine dq (hv := by exact fun _ _ => O) ?_
            refine dn ?_
            iterate 2 (refine sq ?_)
            refine rg ?_
            iterate 2 (refine st (h := O) ?_)
            refine nl ?_
            refine cN (fun c1 => ?_) (fun c1 => ?_)
            · obtain ⟨rfl, rfl, rfl⟩ := hB.1 (by first | exact c1 | simpa using c1)
              refine sq ?_
              refine rg ?_
              refine st (h := sdFA) ?_
              refine st (h := sdL) ?_
              iterate 3 (refine st (h := O) ?_)
              refine gD (fun g27 => ?_) (fun g27 => ?_)
              · refine sg (h := sdFA) ?_
                refine sg (h := sdL) ?_
                refine sg (h := O) ?_
                iterate 2 (refine st (h := O) ?_)
                refine gB (fun g32 => ?_) (fun g32 => ?_)
                · refine sg (h := sdFA) ?_
                  refine sg (h := sdL) ?_
                  refine sg (h := O) ?_
                  iterate 2 (refine st (h := O) ?_)
                  refine gD (fun g37 => ?_) (fun g37 => ?_)
                  · refine clg (h := by exact fun ι hV hl => wakes_C _) ?_
                    iterate 2 (refine st (h := O) ?_)
                    refine nl ?_
                    rw [add_add]
                    refine J.dropF ?_
                    exact rt ⟨rfl, rfl⟩
                  · exact absurd rfl g37
                · simp at g32
              · exact absurd rfl g27
            · have hg := (hB.2 (by first | exact Classical.byContradiction c1 | simpa using c1)).1
              exact absurd hg (by decide)

end Go.Proofs.Ytbeblgjibfoanaa.Am
namespace Go.Proofs.Ytbeblgjibfoanaa.breaksWhole
open Go.ChangeShapes Go.WideShapes Go.ChangeAt Go.RowKit
open Go.ChangeMaps (open_string shut_string)
set_option linter.unusedVariables false
theorem own : ownKnob Try.prog.godebug = none := by kernel_rfl
theorem laidOut : laidOutB Try.prog = true := by kernel_rfl
set_option maxRecDepth 100000 in
theorem lifted (os : Os) (started : os.Started) (H : Type) (enc : TypeId × Value → H) :
    ReturnsInHanded {} Try.checked os 6 .any (Rows.breaksWholeSpec.pre6 enc Try.prog Try.f6 Rows.breaksWholeRow.domain false) (Rows.breaksWholeSpec.post enc Try.prog Try.f6 false true false false) := by
  refine returnsInHanded_of_change_sized (C := Try.checked) own started (by kernel_rfl) Try.func6
    (ChangeSpec.witness6 (enc := enc) (C := Try.checked) false ⟨#[], #[.slice none 0 0, .agg #[.int .i64 0, .int .i64 0, .int .i64 0, .int .i64 0, .int .i64 0]], []⟩ 8 (by kernel_rfl) (by kernel_rfl) (by kernel_rfl) (by kernel_rfl)) ?_
  intro W base args ds gs before hval0 hW hcnd hsz0 _
  have hsz : (DataW.weightsEach Try.prog (Try.f6.params.toList ++ Rows.breaksWholeSpec.plain.varTypes Try.prog) (ds ++ gs)).all (· ≤ reachBytes) = true := hsz0
  have hval : ∀ (j : Nat) t v, Try.f6.params[j]? = some t → args[j]? = some v → Value.okWide Try.prog W .any base t v := hval0
  have hW' := hW
  obtain ⟨p, q, hA0, hV, rfl, hfz, hnd⟩ := hW
  have hA : DataW.TrodAll enc Try.prog W 0 (fun _ => true) true Try.f6.params.toList args.toList ds p := hA0
  rw [Try.params6] at hA hval hsz
  obtain ⟨v0, vs0, d0, ds0, p0, q0, hargs, rfl, rfl, h0, r0⟩ := trodAll_cons hA
  obtain ⟨v1, vs1, d1, ds1, p1, q1, rfl, rfl, rfl, h1, r1⟩ := trodAll_cons r0
  obtain ⟨rfl, rfl, rfl⟩ := trodAll_nil r1
  obtain rfl : args = #[v0, v1] := by cases args; simp_all
  obtain ⟨rfl, rfl⟩ := trodVars_none hV
  have k0 := h0
  have lt0 : ∀ x ∈ p0, x.block < W.heap.size := by obtain ⟨m, hm⟩ := k0; exact DataW.trod_lt m _ _ _ hm
  have sp0 := Am.okWide_spot Try.underlying22 (hval 0 22 v0 rfl rfl)
  obtain ⟨a0, n0, m0, rfl⟩ := okWide_slice Try.underlying22 (hval 0 22 v0 rfl rfl)
  obtain ⟨x0, f0, t0, g0, b0, c0⟩ := Am.openedS (enc := enc) (W := W) 104 Try.underlying22 (by kernel_rfl) (by kernel_rfl) (by decide) Am.opItem rfl sp0 h0 (Am.weigh hsz (j := 0) (t := 22) rfl rfl)
  have k1 := h1
  have lt1 : ∀ x ∈ p1, x.block < W.heap.size := by obtain ⟨m, hm⟩ := k1; exact DataW.trod_lt m _ _ _ hm
  obtain ⟨cs1, rfl, hcs1⟩ := okWide_struct Try.underlying24 (hval 1 24 v1 rfl rfl)
  obtain ⟨x1, f1, g1⟩ := Am.opened (enc := enc) (W := W) Am.opPar h1 (Am.weigh hsz (j := 1) (t := 24) rfl rfl)
  have t1 : Am.eV (.agg cs1) = .agg ⟨cs1.toList.map Am.e1⟩ := rfl
  have hrun := Am.C0.run_e (P := Try.prog) (f := 6) (args := [.slice a0 n0 m0, .agg cs1]) (W := W) (r := .bool true) (by
    simp only [List.map_cons, List.map_nil, t0, t1]
    exact (by rw [show Value.agg ⟨cs1.toList.map Am.e1⟩ = Am.Par.v x1 from f1]; exact Am.law6_C ⟨W, []⟩ _ x0 x1 (Am.RItems.ofS f0) g0)) (by intro v hv vs e; subst e; simp at hv) rfl
  clear hval0 hsz0 hsz hA0
  refine Calls.mono hrun fun e W' ⟨he, bel⟩ => ?_
  subst he
  exact ⟨_, rfl, _, _, _, [], _, [], hW', trodAll_mk1 (shut_bool Try.underlying4 _), (trodAll_cons_mk (Below.trod laidOut (by kernel_rfl) (of_decide_eq_true (by kernel_rfl)) k0 bel lt0) (trodAll_cons_mk (Below.trod laidOut (by kernel_rfl) (of_decide_eq_true (by kernel_rfl)) k1 bel lt1) trodAll_mk0)), rfl, bel.frame _, fun h => by cases h⟩
theorem over : Rows.breaksWholeRow.holds Try.pinned (OpenSpec.ofChange Rows.breaksWholeSpec) :=
  OpenClaim.holds_of_wide 6 Try.f6 rfl rfl rfl rfl rfl rfl rfl ⟨rfl, rfl, rfl, rfl, rfl⟩ rfl rfl rfl rfl rfl (by kernel_rfl) Try.func6 (by kernel_rfl)
    (of_decide_eq_true (by kernel_rfl)) (by unfold Func.isWrapper; first | (rw [if_pos (by decide +kernel)]; kernel_rfl) | (rw [if_neg (by decide +kernel)]; exact ⟨rfl, rfl⟩))
    (fun os started H enc _ => lifted os started H enc)
theorem proved : Rows.BreaksWholeSaid := over
#print axioms proved
end Go.Proofs.Ytbeblgjibfoanaa.breaksWhole
namespace Go.Proofs.Ytbeblgjibfoanaa
/-- The row, under a short name, for the claim. -/
theorem breaksWhole_holds : Rows.BreaksWholeSaid := breaksWhole.proved
end Go.Proofs.Ytbeblgjibfoanaa
