/- The row of BreaksLeast: its walk, over what is handed in. -/
import Derived.Test.YtbeblgjibfoanaaRows
import Derived.Test.YtbeblgjibfoanaaZ5
import Derived.WalkKit
import Derived.ProofKit
import Derived.OpenShut
import Derived.ShutString
import Derived.ChangeOld
import Derived.Below
import Derived.SizedLaws
namespace Go.Proofs.Ytbeblgjibfoanaa.Am
set_option linter.unusedSimpArgs false
set_option linter.unusedVariables false
set_option maxRecDepth 100000
set_option maxHeartbeats 4000000
open Go Go.RowKit
theorem law9_C (F : Mem) (v u : Value) (l : List Item) (at' : List Int) (x : Par) (hv : RItems F v l) (hu : RInts F u at') (hcap : ∀ a n c, u = .slice (some a) n c → n ≤ c) (hgl : ∀ x ∈ l, x.glyphs.length * 8 ≤ 140737488355328) : C0 Try.prog 9 [v, u, x.v] F (.bool true) := by
  have hCo : ∀ G w y, RItems G w l → RInts G y (at'.take 2000) → C0 Try.prog 30 [w, y, x.v] G (.tuple #[.int .i64 (costD l (at'.take 2000) x).1, .bool (costD l (at'.take 2000) x).2]) := fun G w y h1 h2 => Cost_C G w y l _ x h1 h2
  have hCb : ∀ G w y, RItems G w l → RInts G y (bestD l x).1 → C0 Try.prog 30 [w, y, x.v] G (.tuple #[.int .i64 (costD l (bestD l x).1 x).1, .bool (costD l (bestD l x).1 x).2]) := fun G w y h1 h2 => Cost_C G w y l _ x h1 h2
  have hB : ∀ G w, RItems G w l → C Try.prog 15 [w, x.v] G (fun u Y => ∃ w, u = .tuple #[w, .int .i64 (bestD l x).2.1, .bool (bestD l x).2.2] ∧ SlV w ∧ ∀ G, Rd G Y → RInts G w (bestD l x).1) := fun G w h => Best_C G w l x h
  have hL : (costD l (at'.take 2000) x).2 = true → (bestD l x).2.2 = true ∧ (bestD l x).2.1 ≤ (costD l (at'.take 2000) x).1 := fun h => least_way (c := (costD l (at'.take 2000) x).1) (by rw [← h])
  have hC : (bestD l x).2.2 = true → costD l (bestD l x).1 x = ((bestD l x).2.1, true) := best_cost
  have hN0 : ¬ (bestD l x).2.2 = true → bestD l x = ([], 0, false) := best_none
  generalize costD l (at'.take 2000) x = cd at *
  generalize costD l (bestD l x).1 x = cb at *
  generalize bestD l x = bd at *
  obtain ⟨xw, tol, line, twice, odd⟩ := x
  obtain ⟨c, ok⟩ := cd
  obtain ⟨d, too⟩ := cb
  obtain ⟨best, sum, is⟩ := bd
  dsimp only [Par.v] at *
  have hu2 := hu.sl
  rcases hv.forms with ⟨vb, vo, vc, rfl⟩ | ⟨rfl, hnil⟩ <;> rcases hu2 with ⟨ub, uo, un, uc, rfl⟩ | ⟨un, uc, rfl⟩
  all_goals
    refine C.go hT Try.func9 Try.ntmps9 ?_
    refine sq ?_
    refine rg ?_
    refine bx ?_
    refine st (h := O) ?_
    refine nl ?_
    iterate 2 (refine sq ?_)
    refine rg ?_
    refine st (h := O) ?_
    refine cl (h := by exact fun ι hV hl => large_C _ _ l (hv.le hl)) ?_
    refine nl ?_
    refine cB (fun c0 => ?_) (fun c0 => ?_)
    · refine sq ?_
      refine rg ?_
      refine cl (h := by exact fun ι hV hl => wakes_C _) ?_
      refine st (h := O) ?_
      refine nl ?_
      exact rt ⟨rfl, rfl⟩
    · have hl3 : l.length ≤ 3000 := by simp at c0; omega
      refine sk ?_
      refine sq ?_
      refine rg ?_
      refine st (h := O) ?_
      refine clC (h := by exact fun ι hV hl => Ints_C _ _ at' (hu.le hl) hcap) ?_
      intro m Y1 hQ1 hpv1 hpp1 hN1
      obtain ⟨hm, hI1⟩ := hQ1
      rcases hm with ⟨mb, mo, mn, mc, rfl⟩ | ⟨mn, mc, rfl⟩
      all_goals
        refine st (h := O) ?_
        refine nl ?_
        refine sq ?_
        refine dr 10 [5] [0, 2, 3, 1001, 1004, 5, 6, 7, 8, 9] ?_
        iterate 2 (refine dt (hv := by exact O) ?_)
        refine dt (hv := by exact sdLN) ?_
        refine dclC (hkp := by first | exact Kept.all | exact Kept.k0 | exact Kept.kY | exact Kept.kYY | exact Kept.kY3) (h := by exact fun ι hV hl => Copy_C _ _ l ((hv.le hN1.le).le hl) hl3 hgl) ?_
        intro p Y2 hQ2 hpv2 hpp2 hN2
        obtain ⟨hp, hI2⟩ := hQ2
        rcases hp with ⟨pb, po, pn, pc, rfl⟩ | ⟨pn, pc, rfl⟩
        all_goals
          refine dcl (hkp := by first | exact Kept.all | exact Kept.k0 | exact Kept.kY | exact Kept.kYY | exact Kept.kY3) (h := by exact fun ι hV hl => hCo _ _ _ ((hI2 _ hN2.rows).le hl) (((hI1 _ hN1.rows).le hN2.le).le hl)) ?_
          iterate 5 (refine dt (hv := by exact O) ?_)
          refine dn ?_
          refine sq ?_
          refine dr 11 [5] [0, 2, 1001, 1003, 4, 5, 6, 7, 8, 9, 10] ?_
          refine dt (hv := by exact O) ?_
          refine dt (hv := by exact sdLN) ?_
          refine dclC (hkp := by first | exact Kept.all | exact Kept.k0 | exact Kept.kY | exact Kept.kYY | exact Kept.kY3) (h := by exact fun ι hV hl => Copy_C _ _ l (((hv.le hN1.le).le hN2.le).le hl) hl3 hgl) ?_
          intro p3 Y3 hQ3 hpv3 hpp3 hN3
          obtain ⟨hp3, hI3⟩ := hQ3
          rcases hp3 with ⟨pb3, po3, pn3, pc3, rfl⟩ | ⟨pn3, pc3, rfl⟩
          all_goals
            refine dclC (hkp := by first | exact Kept.all | exact Kept.k0 | exact Kept.kY | exact Kept.kYY | exact Kept.kY3) (h := by exact fun ι hV hl => hB _ _ ((hI3 _ hN3.rows).le hl)) ?_
            intro u4 Y4 hQ4 hpv4 hpp4 hN4
            obtain ⟨w4, rfl, -, hI4⟩ := hQ4
            have hIw := hI4 _ hN4.rows
            rcases id hIw with ⟨wb, wo, wc, rfl, -, -⟩ | ⟨rfl, hwe⟩
            all_goals
              iterate 7 (refine dt (hv := by exact O) ?_)
              refine dn ?_
              iterate 2 (refine sq ?_)
              refine rg ?_
              iterate 2 (refine st (h := O) ?_)
              refine gB (fun g37 => ?_) (fun g37 => ?_)
              · obtain ⟨hL1, hL2⟩ := hL (by first | exact g37 | simpa using g37)
                subst hL1
                iterate 3 (refine sg (h := O) ?_)
                refine gB (fun g40 => ?_) (fun g40 => ?_)
                · exact absurd g40 (by decide)
                · refine sg (h := O) ?_
                  iterate 3 (refine sg (h := O) ?_)
                  refine st (h := O) ?_
                  refine nl ?_
                  refine cD (fun c1 => ?_) (fun c1 => ?_)
                  · first | (exfalso; omega) | (exfalso; simp at c1; omega)
                  · refine sk ?_
                    iterate 2 (refine sq ?_)
                    refine rg ?_
                    iterate 2 (refine st (h := O) ?_)
                    refine nl ?_
                    refine cB (fun c2 => ?_) (fun c2 => ?_)
                    · try exact absurd c2 (by decide)
                      all_goals
                        have hb0 := hN0 (by first | (rw [← Bool.not_eq_true']; exact c2) | simpa using c2)
                        simp only [Prod.mk.injEq] at hb0
                        obtain ⟨rfl, rfl, rfl⟩ := hb0
                        refine sq ?_
                        refine rg ?_
                        iterate 4 (refine st (h := O) ?_)
                        refine gD (fun g51 => ?_) (fun g51 => ?_)
                        · refine sg (h := O) ?_
                          refine sg (h := O) ?_
                          iterate 2 (refine st (h := O) ?_)
                          refine gD (fun g55 => ?_) (fun g55 => ?_)
                          · refine clg (h := by exact fun ι hV hl => wakes_C _) ?_
                            iterate 2 (refine st (h := O) ?_)
                            refine nl ?_
                            first
                              | (rw [add_add, add_add, add_add, add_add]
                                 refine J.dropF ?_
                                 exact rt ⟨rfl, rfl⟩)
                              | (rw [add_add, add_add, add_add]
                                 refine J.dropF ?_
                                 exact rt ⟨rfl, rfl⟩)
                          · exact absurd rfl g55
                        · exact absurd rfl g51
                    · have hcb := hC (by first | (have := c2; simp at this; exact this) | rfl)
                      simp only [Prod.mk.injEq] at hcb
                      obtain ⟨rfl, rfl⟩ := hcb
                      refine sk ?_
                      refine sq ?_
                      refine dr 10 [5] [0, 2, 3, 1001, 1004, 5, 6, 7, 8, 9] ?_
                      iterate 2 (refine dt (hv := by exact O) ?_)
                      refine dt (hv := by exact sdLN) ?_
                      refine dclC (hkp := by first | exact Kept.all | exact Kept.k0 | exact Kept.kY | exact Kept.kYY | exact Kept.kY3) (h := by exact fun ι hV hl => Copy_C _ _ l (((((hv.le hN1.le).le hN2.le).le hN3.le).le hN4.le).le hl) hl3 hgl) ?_
                      intro p5 Y5 hQ5 hpv5 hpp5 hN5
                      obtain ⟨hp5, hI5⟩ := hQ5
                      rcases hp5 with ⟨pb5, po5, pn5, pc5, rfl⟩ | ⟨pn5, pc5, rfl⟩
                      all_goals
                        refine dcl (hkp := by first | exact Kept.all | exact Kept.k0 | exact Kept.kY | exact Kept.kYY | exact Kept.kY3) (h := by exact fun ι hV hl => hCb _ _ _ ((hI5 _ hN5.rows).le hl) ((hIw.le hN5.le).le hl)) ?_
                        iterate 5 (refine dt (hv := by exact O) ?_)
                        refine dn ?_
                        refine sq ?_
                        refine rg ?_
                        iterate 2 (refine st (h := O) ?_)
                        refine gB (fun g67 => ?_) (fun g67 => ?_)
                        · refine sg (h := O) ?_
                          iterate 2 (refine sg (h := O) ?_)
                          iterate 2 (refine st (h := O) ?_)
                          refine gD (fun g72 => ?_) (fun g72 => ?_)
                          · refine clg (h := by exact fun ι hV hl => wakes_C _) ?_
                            iterate 2 (refine st (h := O) ?_)
                            refine nl ?_
                            first
                              | (rw [add_add, add_add, add_add, add_add]
                                 refine J.dropF ?_
                                 exact rt ⟨rfl, rfl⟩)
                              | (rw [add_add, add_add, add_add]
                                 refine J.dropF ?_
                                 exact rt ⟨rfl, rfl⟩)
                          · exact absurd rfl g72
                        · simp at g67
              · refine sp ?_
                iterate 2 (refine sp ?_)
                iterate 3 (refine su ?_)
                refine sp ?_
                refine st (h := O) ?_
                refine nl ?_
                refine cF ?_
                refine sk ?_
                iterate 2 (refine sq ?_)
                refine rg ?_
                iterate 2 (refine st (h := O) ?_)
                refine nl ?_
                refine cB (fun c2 => ?_) (fun c2 => ?_)
                · try exact absurd c2 (by decide)
                  all_goals
                    have hb0 := hN0 (by first | (rw [← Bool.not_eq_true']; exact c2) | simpa using c2)
                    simp only [Prod.mk.injEq] at hb0
                    obtain ⟨rfl, rfl, rfl⟩ := hb0
                    refine sq ?_
                    refine rg ?_
                    iterate 4 (refine st (h := O) ?_)
                    refine gD (fun g51 => ?_) (fun g51 => ?_)
                    · refine sg (h := O) ?_
                      refine sg (h := O) ?_
                      iterate 2 (refine st (h := O) ?_)
                      refine gD (fun g55 => ?_) (fun g55 => ?_)
                      · refine clg (h := by exact fun ι hV hl => wakes_C _) ?_
                        iterate 2 (refine st (h := O) ?_)
                        refine nl ?_
                        first
                          | (rw [add_add, add_add, add_add, add_add]
                             refine J.dropF ?_
                             exact rt ⟨rfl, rfl⟩)
                          | (rw [add_add, add_add, add_add]
                             refine J.dropF ?_
                             exact rt ⟨rfl, rfl⟩)
                      · exact absurd rfl g55
                    · exact absurd rfl g51
                · have hcb := hC (by first | (have := c2; simp at this; exact this) | rfl)
                  simp only [Prod.mk.injEq] at hcb
                  obtain ⟨rfl, rfl⟩ := hcb
                  refine sk ?_
                  refine sq ?_
                  refine dr 10 [5] [0, 2, 3, 1001, 1004, 5, 6, 7, 8, 9] ?_
                  iterate 2 (refine dt (hv := by exact O) ?_)
                  refine dt (hv := by exact sdLN) ?_
                  refine dclC (hkp := by first | exact Kept.all | exact Kept.k0 | exact Kept.kY | exact Kept.kYY | exact Kept.kY3) (h := by exact fun ι hV hl => Copy_C _ _ l (((((hv.le hN1.le).le hN2.le).le hN3.le).le hN4.le).le hl) hl3 hgl) ?_
                  intro p5 Y5 hQ5 hpv5 hpp5 hN5
                  obtain ⟨hp5, hI5⟩ := hQ5
                  rcases hp5 with ⟨pb5, po5, pn5, pc5, rfl⟩ | ⟨pn5, pc5, rfl⟩
                  all_goals
                    refine dcl (hkp := by first | exact Kept.all | exact Kept.k0 | exact Kept.kY | exact Kept.kYY | exact Kept.kY3) (h := by exact fun ι hV hl => hCb _ _ _ ((hI5 _ hN5.rows).le hl) ((hIw.le hN5.le).le hl)) ?_
                    iterate 5 (refine dt (hv := by exact O) ?_)
                    refine dn ?_
                    refine sq ?_
                    refine rg ?_
                    iterate 2 (refine st (h := O) ?_)
                    refine gB (fun g67 => ?_) (fun g67 => ?_)
                    · refine sg (h := O) ?_
                      iterate 2 (refine sg (h := O) ?_)
                      iterate 2 (refine st (h := O) ?_)
                      refine gD (fun g72 => ?_) (fun g72 => ?_)
                      · refine clg (h := by exact fun ι hV hl => wakes_C _) ?_
                        iterate 2 (refine st (h := O) ?_)
                        refine nl ?_
                        first
                          | (rw [add_add, add_add, add_add, add_add]
                             refine J.dropF ?_
                             exact rt ⟨rfl, rfl⟩)
                          | (rw [add_add, add_add, add_add]
                             refine J.dropF ?_
                             exact rt ⟨rfl, rfl⟩)
                      · exact absurd rfl g72
                    · simp at g67

end Go.Proofs.Ytbeblgjibfoanaa.Am
namespace Go.Proofs.Ytbeblgjibfoanaa.breaksLeast
open Go.ChangeShapes Go.WideShapes Go.ChangeAt Go.RowKit
open Go.ChangeMaps (open_string shut_string)
set_option linter.unusedVariables false
theorem own : ownKnob Try.prog.godebug = none := by kernel_rfl
theorem laidOut : laidOutB Try.prog = true := by kernel_rfl
set_option maxRecDepth 100000 in
theorem lifted (os : Os) (started : os.Started) (H : Type) (enc : TypeId × Value → H) :
    ReturnsInHanded {} Try.checked os 9 .any (Rows.breaksLeastSpec.pre6 enc Try.prog Try.f9 Rows.breaksLeastRow.domain false) (Rows.breaksLeastSpec.post enc Try.prog Try.f9 false true false false) := by
  refine returnsInHanded_of_change_sized (C := Try.checked) own started (by kernel_rfl) Try.func9
    (ChangeSpec.witness6 (enc := enc) (C := Try.checked) false ⟨#[], #[.slice none 0 0, .slice none 0 0, .agg #[.int .i64 0, .int .i64 0, .int .i64 0, .int .i64 0, .int .i64 0]], []⟩ 8 (by kernel_rfl) (by kernel_rfl) (by kernel_rfl) (by kernel_rfl)) ?_
  intro W base args ds gs before hval0 hW hcnd hsz0 _
  have hsz : (DataW.weightsEach Try.prog (Try.f9.params.toList ++ Rows.breaksLeastSpec.plain.varTypes Try.prog) (ds ++ gs)).all (· ≤ reachBytes) = true := hsz0
  have hval : ∀ (j : Nat) t v, Try.f9.params[j]? = some t → args[j]? = some v → Value.okWide Try.prog W .any base t v := hval0
  have hW' := hW
  obtain ⟨p, q, hA0, hV, rfl, hfz, hnd⟩ := hW
  have hA : DataW.TrodAll enc Try.prog W 0 (fun _ => true) true Try.f9.params.toList args.toList ds p := hA0
  rw [Try.params9] at hA hval hsz
  obtain ⟨v0, vs0, d0, ds0, p0, q0, hargs, rfl, rfl, h0, r0⟩ := trodAll_cons hA
  obtain ⟨v1, vs1, d1, ds1, p1, q1, rfl, rfl, rfl, h1, r1⟩ := trodAll_cons r0
  obtain ⟨v2, vs2, d2, ds2, p2, q2, rfl, rfl, rfl, h2, r2⟩ := trodAll_cons r1
  obtain ⟨rfl, rfl, rfl⟩ := trodAll_nil r2
  obtain rfl : args = #[v0, v1, v2] := by cases args; simp_all
  obtain ⟨rfl, rfl⟩ := trodVars_none hV
  have k0 := h0
  have lt0 : ∀ x ∈ p0, x.block < W.heap.size := by obtain ⟨m, hm⟩ := k0; exact DataW.trod_lt m _ _ _ hm
  have sp0 := Am.okWide_spot Try.underlying22 (hval 0 22 v0 rfl rfl)
  obtain ⟨a0, n0, m0, rfl⟩ := okWide_slice Try.underlying22 (hval 0 22 v0 rfl rfl)
  obtain ⟨x0, f0, t0, g0, b0, c0⟩ := Am.openedS (enc := enc) (W := W) 104 Try.underlying22 (by kernel_rfl) (by kernel_rfl) (by decide) Am.opItem rfl sp0 h0 (Am.weigh hsz (j := 0) (t := 22) rfl rfl)
  have k1 := h1
  have lt1 : ∀ x ∈ p1, x.block < W.heap.size := by obtain ⟨m, hm⟩ := k1; exact DataW.trod_lt m _ _ _ hm
  have sp1 := Am.okWide_spot Try.underlying28 (hval 1 28 v1 rfl rfl)
  obtain ⟨a1, n1, m1, rfl⟩ := okWide_slice Try.underlying28 (hval 1 28 v1 rfl rfl)
  obtain ⟨x1, f1, t1, g1, b1, c1⟩ := Am.openedS (enc := enc) (W := W) 8 Try.underlying28 (by kernel_rfl) (by kernel_rfl) (by decide) (Am.opens_int Try.underlying3) rfl sp1 h1 (Am.weigh hsz (j := 1) (t := 28) rfl rfl)
  have k2 := h2
  have lt2 : ∀ x ∈ p2, x.block < W.heap.size := by obtain ⟨m, hm⟩ := k2; exact DataW.trod_lt m _ _ _ hm
  obtain ⟨cs2, rfl, hcs2⟩ := okWide_struct Try.underlying24 (hval 2 24 v2 rfl rfl)
  obtain ⟨x2, f2, g2⟩ := Am.opened (enc := enc) (W := W) Am.opPar h2 (Am.weigh hsz (j := 2) (t := 24) rfl rfl)
  have t2 : Am.eV (.agg cs2) = .agg ⟨cs2.toList.map Am.e1⟩ := rfl
  have hrun := Am.C0.run_e (P := Try.prog) (f := 9) (args := [.slice a0 n0 m0, .slice a1 n1 m1, .agg cs2]) (W := W) (r := .bool true) (by
    simp only [List.map_cons, List.map_nil, t0, t1, t2]
    exact (by rw [show Value.agg ⟨cs2.toList.map Am.e1⟩ = Am.Par.v x2 from f2]; exact Am.law9_C ⟨W, []⟩ _ _ x0 x1 x2 (Am.RItems.ofS f0) (Am.RInts.ofS f1) (fun a n c e => c1 (some a) n c e) g0)) (by intro v hv vs e; subst e; simp at hv) rfl
  clear hval0 hsz0 hsz hA0
  refine Calls.mono hrun fun e W' ⟨he, bel⟩ => ?_
  subst he
  exact ⟨_, rfl, _, _, _, [], _, [], hW', trodAll_mk1 (shut_bool Try.underlying4 _), (trodAll_cons_mk (Below.trod laidOut (by kernel_rfl) (of_decide_eq_true (by kernel_rfl)) k0 bel lt0) (trodAll_cons_mk (Below.trod laidOut (by kernel_rfl) (of_decide_eq_true (by kernel_rfl)) k1 bel lt1) (trodAll_cons_mk (Below.trod laidOut (by kernel_rfl) (of_decide_eq_true (by kernel_rfl)) k2 bel lt2) trodAll_mk0))), rfl, bel.frame _, fun h => by cases h⟩
theorem over : Rows.breaksLeastRow.holds Try.pinned (OpenSpec.ofChange Rows.breaksLeastSpec) :=
  OpenClaim.holds_of_wide 9 Try.f9 rfl rfl rfl rfl rfl rfl rfl ⟨rfl, rfl, rfl, rfl, rfl⟩ rfl rfl rfl rfl rfl (by kernel_rfl) Try.func9 (by kernel_rfl)
    (of_decide_eq_true (by kernel_rfl)) (by unfold Func.isWrapper; first | (rw [if_pos (by decide +kernel)]; kernel_rfl) | (rw [if_neg (by decide +kernel)]; exact ⟨rfl, rfl⟩))
    (fun os started H enc _ => lifted os started H enc)
theorem proved : Rows.BreaksLeastSaid := over
#print axioms proved
end Go.Proofs.Ytbeblgjibfoanaa.breaksLeast
namespace Go.Proofs.Ytbeblgjibfoanaa
/-- The row, under a short name, for the claim. -/
theorem breaksLeast_holds : Rows.BreaksLeastSaid := breaksLeast.proved
end Go.Proofs.Ytbeblgjibfoanaa
