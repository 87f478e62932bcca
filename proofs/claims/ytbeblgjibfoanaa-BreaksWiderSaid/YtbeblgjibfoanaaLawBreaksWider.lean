/- The row of BreaksWider: its walk, over what is handed in. -/
import Derived.Test.YtbeblgjibfoanaaRows
import Derived.Test.YtbeblgjibfoanaaZ5
import Derived.WalkKit
import Derived.ProofKit
import Derived.OpenShut
import Derived.ShutString
import Derived.ChangeOld
import Derived.Below
import Derived.SizedLaws
namespace Go.Proofs.Ytbeblgjibfoanaa.Am
set_option linter.unusedSimpArgs false
set_option linter.unusedVariables false
set_option maxRecDepth 100000
set_option maxHeartbeats 4000000
open Go Go.RowKit
theorem law5_C (F : Mem) (v : Value) (l : List Item) (x : Par) (m : Int) (hv : RItems F v l) (hgl : ∀ x ∈ l, x.glyphs.length * 8 ≤ 140737488355328) : C0 Try.prog 5 [v, x.v, .int .i64 m] F (.bool true) := by
  have hW : 0 ≤ m → 0 ≤ x.tol → x.tol + m ≤ 10000 → (bestD l x).2.2 = true → (bestD l { x with tol := x.tol + m }).2.2 = true ∧ (bestD l { x with tol := x.tol + m }).2.1 ≤ (bestD l x).2.1 := fun h0 h1 h2 h => best_wider h0 h1 h2 h
  have hB1 : ∀ G w, RItems G w l → C Try.prog 15 [w, x.v] G (fun u Y => ∃ w, u = .tuple #[w, .int .i64 (bestD l x).2.1, .bool (bestD l x).2.2] ∧ SlV w ∧ ∀ G, Rd G Y → RInts G w (bestD l x).1) := fun G w h => Best_C G w l x h
  have hB2 : ∀ G w, RItems G w l → C Try.prog 15 [w, Par.v { x with tol := x.tol + m }] G (fun u Y => ∃ w, u = .tuple #[w, .int .i64 (bestD l { x with tol := x.tol + m }).2.1, .bool (bestD l { x with tol := x.tol + m }).2.2] ∧ SlV w ∧ ∀ G, Rd G Y → RInts G w (bestD l { x with tol := x.tol + m }).1) := fun G w h => Best_C G w l _ h
  generalize bestD l x = b1 at *
  generalize bestD l { x with tol := x.tol + m } = b2 at *
  obtain ⟨xw, tol, line, twice, odd⟩ := x
  obtain ⟨p1, k1, f1⟩ := b1
  obtain ⟨p2, k2, f2⟩ := b2
  dsimp only [Par.v] at *
  rcases hv.forms with ⟨vb, vo, vc, rfl⟩ | ⟨rfl, hnil⟩
  all_goals
    refine C.go hT Try.func5 Try.ntmps5 ?_
    refine sq ?_
    refine rg ?_
    refine bx ?_
    refine st (h := O) ?_
    refine nl ?_
    iterate 2 (refine sq ?_)
    refine rg ?_
    refine st (h := O) ?_
    refine cl (h := by exact fun ι hV hl => large_C _ _ l (hv.le hl)) ?_
    refine st (h := O) ?_
    refine gB (fun g16 => ?_) (fun g16 => ?_)
    · refine sp ?_
      refine sp ?_
      iterate 2 (refine st (h := O) ?_)
      iterate 2 (refine sp ?_)
      iterate 2 (refine st (h := O) ?_)
      iterate 3 (refine sp ?_)
      iterate 2 (refine st (h := O) ?_)
      iterate 5 (refine sp ?_)
      refine st (h := O) ?_
      refine nl ?_
      refine cT ?_
      refine sq ?_
      refine rg ?_
      refine cl (h := by exact fun ι hV hl => wakes_C _) ?_
      refine st (h := O) ?_
      refine nl ?_
      first
        | exact rt ⟨rfl, rfl⟩
        | (rw [add_add, add_add, add_add]
           refine J.dropF ?_
           exact rt ⟨rfl, rfl⟩)
    · have hl3 : l.length ≤ 3000 := by simp at g16; omega
      iterate 2 (refine sg (h := O) ?_)
      iterate 2 (refine st (h := O) ?_)
      refine gD (fun g20 => ?_) (fun g20 => ?_)
      · refine sp ?_
        refine sp ?_
        iterate 2 (refine st (h := O) ?_)
        iterate 3 (refine sp ?_)
        iterate 2 (refine st (h := O) ?_)
        iterate 5 (refine sp ?_)
        refine st (h := O) ?_
        refine nl ?_
        refine cT ?_
        refine sq ?_
        refine rg ?_
        refine cl (h := by exact fun ι hV hl => wakes_C _) ?_
        refine st (h := O) ?_
        refine nl ?_
        first
          | exact rt ⟨rfl, rfl⟩
          | (rw [add_add, add_add, add_add]
             refine J.dropF ?_
             exact rt ⟨rfl, rfl⟩)
      · refine sg (h := O) ?_
        refine sg (h := O) ?_
        iterate 2 (refine st (h := O) ?_)
        refine gD (fun g24 => ?_) (fun g24 => ?_)
        · refine sp ?_
          iterate 2 (refine sp ?_)
          iterate 2 (refine st (h := O) ?_)
          iterate 5 (refine sp ?_)
          refine st (h := O) ?_
          refine nl ?_
          refine cT ?_
          refine sq ?_
          refine rg ?_
          refine cl (h := by exact fun ι hV hl => wakes_C _) ?_
          refine st (h := O) ?_
          refine nl ?_
          first
            | exact rt ⟨rfl, rfl⟩
            | (rw [add_add, add_add, add_add]
               refine J.dropF ?_
               exact rt ⟨rfl, rfl⟩)
        · refine sg (h := sdFA) ?_
          refine sg (h := sdL) ?_
          refine sg (h := O) ?_
          iterate 2 (refine st (h := O) ?_)
          refine gD (fun g29 => ?_) (fun g29 => ?_)
          · refine sp ?_
            iterate 4 (refine sp ?_)
            refine st (h := O) ?_
            refine nl ?_
            refine cT ?_
            refine sq ?_
            refine rg ?_
            refine cl (h := by exact fun ι hV hl => wakes_C _) ?_
            refine st (h := O) ?_
            refine nl ?_
            first
              | exact rt ⟨rfl, rfl⟩
              | (rw [add_add, add_add, add_add]
                 refine J.dropF ?_
                 exact rt ⟨rfl, rfl⟩)
          · refine sg (h := sdFA) ?_
            refine sg (h := sdL) ?_
            refine sg (h := O) ?_
            refine sg (h := sdS) ?_
            refine sg (h := O) ?_
            refine st (h := O) ?_
            refine nl ?_
            refine cD (fun c0 => ?_) (fun c0 => ?_)
            · refine sq ?_
              refine rg ?_
              refine cl (h := by exact fun ι hV hl => wakes_C _) ?_
              refine st (h := O) ?_
              refine nl ?_
              first
                | exact rt ⟨rfl, rfl⟩
                | (rw [add_add, add_add, add_add]
                   refine J.dropF ?_
                   exact rt ⟨rfl, rfl⟩)
            · refine sk ?_
              refine sq ?_
              refine rg ?_
              refine st (h := sdLN) ?_
              refine al ?_
              refine so ?_
              refine nl ?_
              refine sq ?_
              refine rg ?_
              refine st (h := sdFA) ?_
              refine st (h := sdL) ?_
              refine st (h := O) ?_
              refine st (h := sdA) ?_
              refine st (h := sdFA) ?_
              refine so ?_
              refine nl ?_
              refine sq ?_
              refine dr 11 [7, 4] [0, 2, 1001, 1003, 4, 5, 6, 7, 8, 9, 10] ?_
              refine dt (hv := by exact O) ?_
              refine dt (hv := by exact sdLN) ?_
              refine dclC (hkp := by first | exact Kept.all | exact Kept.k0 | exact Kept.kY | exact Kept.kYY | exact Kept.kY3) (h := by exact fun ι hV hl => Copy_C _ _ l (hv.le hl) hl3 hgl) ?_
              intro p Y1 hQ1 hpv1 hpp1 hN1
              obtain ⟨hp, hI1⟩ := hQ1
              rcases hp with ⟨pb, po, pn, pc, rfl⟩ | ⟨pn, pc, rfl⟩
              all_goals
                refine dclC (hkp := by first | exact Kept.all | exact Kept.k0 | exact Kept.kY | exact Kept.kYY | exact Kept.kY3) (h := by exact fun ι hV hl => hB1 _ _ ((hI1 _ hN1.rows).le hl)) ?_
                intro u2 Y2 hQ2 hpv2 hpp2 hN2
                obtain ⟨w2, rfl, hw2, -⟩ := hQ2
                rcases hw2 with ⟨wb, wo, wn, wc, rfl⟩ | ⟨wn, wc, rfl⟩
                all_goals
                  iterate 7 (refine dt (hv := by exact O) ?_)
                  refine dn ?_
                  refine sq ?_
                  refine dr 11 [7, 4] [0, 2, 1001, 1003, 4, 5, 6, 7, 8, 9, 10] ?_
                  refine dt (hv := by exact O) ?_
                  refine dt (hv := by exact sdLN) ?_
                  refine dclC (hkp := by first | exact Kept.all | exact Kept.k0 | exact Kept.kY | exact Kept.kYY | exact Kept.kY3) (h := by exact fun ι hV hl => Copy_C _ _ l (((hv.le hN1.le).le hN2.le).le hl) hl3 hgl) ?_
                  intro p3 Y3 hQ3 hpv3 hpp3 hN3
                  obtain ⟨hp3, hI3⟩ := hQ3
                  rcases hp3 with ⟨pb3, po3, pn3, pc3, rfl⟩ | ⟨pn3, pc3, rfl⟩
                  all_goals
                    refine dclC (hkp := by first | exact Kept.all | exact Kept.k0 | exact Kept.kY | exact Kept.kYY | exact Kept.kY3) (h := by exact fun ι hV hl => hB2 _ _ ((hI3 _ hN3.rows).le hl)) ?_
                    intro u4 Y4 hQ4 hpv4 hpp4 hN4
                    obtain ⟨w4, rfl, hw4, -⟩ := hQ4
                    rcases hw4 with ⟨wb4, wo4, wn4, wc4, rfl⟩ | ⟨wn4, wc4, rfl⟩
                    all_goals
                      iterate 7 (refine dt (hv := by exact O) ?_)
                      refine dn ?_
                      refine sq ?_
                      refine rg ?_
                      iterate 3 (refine st (h := O) ?_)
                      refine gB (fun g61 => ?_) (fun g61 => ?_)
                      · refine sp ?_
                        refine sp ?_
                        iterate 3 (refine su ?_)
                        refine sp ?_
                        iterate 2 (refine st (h := O) ?_)
                        refine clg (h := by exact fun ι hV hl => wakes_C _) ?_
                        iterate 2 (refine st (h := O) ?_)
                        refine nl ?_
                        first
                          | exact rt ⟨rfl, rfl⟩
                          | (rw [add_add, add_add, add_add]
                             refine J.dropF ?_
                             exact rt ⟨rfl, rfl⟩)
                      · have hWW := hW (by omega) (by omega) (by omega) (by simpa using g61)
                        iterate 2 (refine sg (h := O) ?_)
                        refine gB (fun g63 => ?_) (fun g63 => ?_)
                        · refine sg (h := O) ?_
                          iterate 3 (refine sg (h := O) ?_)
                          iterate 2 (refine st (h := O) ?_)
                          refine gD (fun g69 => ?_) (fun g69 => ?_)
                          · refine clg (h := by exact fun ι hV hl => wakes_C _) ?_
                            iterate 2 (refine st (h := O) ?_)
                            refine nl ?_
                            first
                              | exact rt ⟨rfl, rfl⟩
                              | (rw [add_add, add_add, add_add]
                                 refine J.dropF ?_
                                 exact rt ⟨rfl, rfl⟩)
                          · exact absurd hWW.2 (by omega)
                        · exact absurd hWW.1 (by rw [g63]; decide)

end Go.Proofs.Ytbeblgjibfoanaa.Am
namespace Go.Proofs.Ytbeblgjibfoanaa.breaksWider
open Go.ChangeShapes Go.WideShapes Go.ChangeAt Go.RowKit
open Go.ChangeMaps (open_string shut_string)
set_option linter.unusedVariables false
theorem own : ownKnob Try.prog.godebug = none := by kernel_rfl
theorem laidOut : laidOutB Try.prog = true := by kernel_rfl
set_option maxRecDepth 100000 in
theorem lifted (os : Os) (started : os.Started) (H : Type) (enc : TypeId × Value → H) :
    ReturnsInHanded {} Try.checked os 5 .any (Rows.breaksWiderSpec.pre6 enc Try.prog Try.f5 Rows.breaksWiderRow.domain false) (Rows.breaksWiderSpec.post enc Try.prog Try.f5 false true false false) := by
  refine returnsInHanded_of_change_sized (C := Try.checked) own started (by kernel_rfl) Try.func5
    (ChangeSpec.witness6 (enc := enc) (C := Try.checked) false ⟨#[], #[.slice none 0 0, .agg #[.int .i64 0, .int .i64 0, .int .i64 0, .int .i64 0, .int .i64 0], .int .i64 0], []⟩ 8 (by kernel_rfl) (by kernel_rfl) (by kernel_rfl) (by kernel_rfl)) ?_
  intro W base args ds gs before hval0 hW hcnd hsz0 _
  have hsz : (DataW.weightsEach Try.prog (Try.f5.params.toList ++ Rows.breaksWiderSpec.plain.varTypes Try.prog) (ds ++ gs)).all (· ≤ reachBytes) = true := hsz0
  have hval : ∀ (j : Nat) t v, Try.f5.params[j]? = some t → args[j]? = some v → Value.okWide Try.prog W .any base t v := hval0
  have hW' := hW
  obtain ⟨p, q, hA0, hV, rfl, hfz, hnd⟩ := hW
  have hA : DataW.TrodAll enc Try.prog W 0 (fun _ => true) true Try.f5.params.toList args.toList ds p := hA0
  rw [Try.params5] at hA hval hsz
  obtain ⟨v0, vs0, d0, ds0, p0, q0, hargs, rfl, rfl, h0, r0⟩ := trodAll_cons hA
  obtain ⟨v1, vs1, d1, ds1, p1, q1, rfl, rfl, rfl, h1, r1⟩ := trodAll_cons r0
  obtain ⟨v2, vs2, d2, ds2, p2, q2, rfl, rfl, rfl, h2, r2⟩ := trodAll_cons r1
  obtain ⟨rfl, rfl, rfl⟩ := trodAll_nil r2
  obtain rfl : args = #[v0, v1, v2] := by cases args; simp_all
  obtain ⟨rfl, rfl⟩ := trodVars_none hV
  have k0 := h0
  have lt0 : ∀ x ∈ p0, x.block < W.heap.size := by obtain ⟨m, hm⟩ := k0; exact DataW.trod_lt m _ _ _ hm
  have sp0 := Am.okWide_spot Try.underlying22 (hval 0 22 v0 rfl rfl)
  obtain ⟨a0, n0, m0, rfl⟩ := okWide_slice Try.underlying22 (hval 0 22 v0 rfl rfl)
  obtain ⟨x0, f0, t0, g0, b0, c0⟩ := Am.openedS (enc := enc) (W := W) 104 Try.underlying22 (by kernel_rfl) (by kernel_rfl) (by decide) Am.opItem rfl sp0 h0 (Am.weigh hsz (j := 0) (t := 22) rfl rfl)
  have k1 := h1
  have lt1 : ∀ x ∈ p1, x.block < W.heap.size := by obtain ⟨m, hm⟩ := k1; exact DataW.trod_lt m _ _ _ hm
  obtain ⟨cs1, rfl, hcs1⟩ := okWide_struct Try.underlying24 (hval 1 24 v1 rfl rfl)
  obtain ⟨x1, f1, g1⟩ := Am.opened (enc := enc) (W := W) Am.opPar h1 (Am.weigh hsz (j := 1) (t := 24) rfl rfl)
  have t1 : Am.eV (.agg cs1) = .agg ⟨cs1.toList.map Am.e1⟩ := rfl
  obtain ⟨x2, rfl, rfl, rfl, w2⟩ := open_int Try.underlying3 (hval 2 3 v2 rfl rfl) h2
  have t2 : Am.eV (.int .i64 x2) = .int .i64 x2 := rfl
  have hrun := Am.C0.run_e (P := Try.prog) (f := 5) (args := [.slice a0 n0 m0, .agg cs1, .int .i64 x2]) (W := W) (r := .bool true) (by
    simp only [List.map_cons, List.map_nil, t0, t1, t2]
    exact (by rw [show Value.agg ⟨cs1.toList.map Am.e1⟩ = Am.Par.v x1 from f1]; exact Am.law5_C ⟨W, []⟩ _ x0 x1 x2 (Am.RItems.ofS f0) g0)) (by intro v hv vs e; subst e; simp at hv) rfl
  clear hval0 hsz0 hsz hA0
  refine Calls.mono hrun fun e W' ⟨he, bel⟩ => ?_
  subst he
  exact ⟨_, rfl, _, _, _, [], _, [], hW', trodAll_mk1 (shut_bool Try.underlying4 _), (trodAll_cons_mk (Below.trod laidOut (by kernel_rfl) (of_decide_eq_true (by kernel_rfl)) k0 bel lt0) (trodAll_cons_mk (Below.trod laidOut (by kernel_rfl) (of_decide_eq_true (by kernel_rfl)) k1 bel lt1) (trodAll_cons_mk (shut_int Try.underlying3 w2) trodAll_mk0))), rfl, bel.frame _, fun h => by cases h⟩
theorem over : Rows.breaksWiderRow.holds Try.pinned (OpenSpec.ofChange Rows.breaksWiderSpec) :=
  OpenClaim.holds_of_wide 5 Try.f5 rfl rfl rfl rfl rfl rfl rfl ⟨rfl, rfl, rfl, rfl, rfl⟩ rfl rfl rfl rfl rfl (by kernel_rfl) Try.func5 (by kernel_rfl)
    (of_decide_eq_true (by kernel_rfl)) (by unfold Func.isWrapper; first | (rw [if_pos (by decide +kernel)]; kernel_rfl) | (rw [if_neg (by decide +kernel)]; exact ⟨rfl, rfl⟩))
    (fun os started H enc _ => lifted os started H enc)
theorem proved : Rows.BreaksWiderSaid := over
#print axioms proved
end Go.Proofs.Ytbeblgjibfoanaa.breaksWider
namespace Go.Proofs.Ytbeblgjibfoanaa
/-- The row, under a short name, for the claim. -/
theorem breaksWider_holds : Rows.BreaksWiderSaid := breaksWider.proved
end Go.Proofs.Ytbeblgjibfoanaa
