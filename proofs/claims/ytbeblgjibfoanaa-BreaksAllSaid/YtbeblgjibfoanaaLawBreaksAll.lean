/- The row of BreaksAll: its walk, over what is handed in. -/
import Derived.Test.YtbeblgjibfoanaaRows
import Derived.Test.YtbeblgjibfoanaaZ5
import Derived.WalkKit
import Derived.ProofKit
import Derived.OpenShut
import Derived.ShutString
import Derived.ChangeOld
import Derived.Below
import Derived.SizedLaws
namespace Go.Proofs.Ytbeblgjibfoanaa.Am
set_option linter.unusedSimpArgs false
set_option linter.unusedVariables false
set_option maxRecDepth 100000
set_option maxHeartbeats 4000000
open Go Go.RowKit
theorem law4_C (F : Mem) (v : Value) (l : List Item) (x : Par) (hv : RItems F v l) (hgl : ∀ x ∈ l, x.glyphs.length * 8 ≤ 140737488355328) : C0 Try.prog 4 [v, x.v] F (.bool true) := by
  have hW : goodL l = true → (tryD l x (l.length + 1) [] ⟨3000, 0, false⟩).left ≠ 0 → (tryD l x (l.length + 1) [] ⟨3000, 0, false⟩).has = (bestD l x).2.2 ∧ ((bestD l x).2.2 = true → (bestD l x).2.1 = (tryD l x (l.length + 1) [] ⟨3000, 0, false⟩).least) := fun h h2 => try_best h (by decide) h2
  have hB : ∀ G w, RItems G w l → C Try.prog 15 [w, x.v] G (fun u Y => ∃ w, u = .tuple #[w, .int .i64 (bestD l x).2.1, .bool (bestD l x).2.2] ∧ SlV w ∧ ∀ G, Rd G Y → RInts G w (bestD l x).1) := fun G w h => Best_C G w l x h
  have hTc : goodL l = true → l.length ≤ 16 → ∀ G, RItems G v l → CA Try.prog [500001] [500001] 22 [.pointer (some ⟨500001, 0, some 0⟩), .slice none 0 0] G [(500001, wRow v x ⟨3000, 0, false⟩)] (fun r Y K' => r = .tuple #[] ∧ Y = [] ∧ K' = [(500001, wRow v x (tryD l x (l.length + 1) [] ⟨3000, 0, false⟩))]) := fun h h2 G h3 => try_C l x h h2 v (l.length + 1) G _ [] _ h3 (.inr ⟨rfl, rfl⟩) (by simp [lastO]) (by simp only [lastO]; omega) (by simp only [lastO]; omega) (by simp [lastO]) (by decide) (by decide)
  generalize tryD l x (l.length + 1) [] ⟨3000, 0, false⟩ = st at *
  generalize bestD l x = bd at *
  obtain ⟨left, least, has⟩ := st
  obtain ⟨best, sum, ok⟩ := bd
  obtain ⟨xw, tol, line, twice, odd⟩ := x
  dsimp only [Par.v] at *
  rcases hv.forms with ⟨vb, vo, vc, rfl⟩ | ⟨rfl, hnil⟩
  ·
    refine C.go hT Try.func4 Try.ntmps4 ?_
    refine sq ?_
    refine rg ?_
    refine bx ?_
    refine st (h := O) ?_
    refine nl ?_
    iterate 2 (refine sq ?_)
    refine rg ?_
    iterate 3 (refine st (h := O) ?_)
    refine nl ?_
    refine cD (fun c0 => ?_) (fun c0 => ?_)
    · refine sq ?_
      refine rg ?_
      refine cl (h := by exact fun ι hV hl => wakes_C _) ?_
      refine st (h := O) ?_
      refine nl ?_
      exact rt ⟨rfl, rfl⟩
    · have hl16 : l.length ≤ 16 := by omega
      refine sk ?_
      refine sq ?_
      refine rg ?_
      refine st (h := O) ?_
      refine st (h := sdLN) ?_
      refine st (h := O) ?_
      refine bx ?_
      refine st (h := O) ?_
      refine JL.retagP (d := 5) (t := 16) (u := 500001) (off := 0) [(0, _), (3, _), (4, _)] [(3, _)] ?_
      refine nl ?_
      iterate 2 (refine sq ?_)
      refine rg ?_
      refine st (h := O) ?_
      refine cl (h := by exact fun ι hV hl => RGood_C _ _ l (hv.le hl)) ?_
      refine st (h := O) ?_
      refine nl ?_
      refine cB (fun c1 => ?_) (fun c1 => ?_)
      · refine sq ?_
        refine rg ?_
        refine cl (h := by exact fun ι hV hl => wakes_C _) ?_
        refine st (h := O) ?_
        refine nl ?_
        exact rt ⟨rfl, rfl⟩
      · have hgl2 := of_not c1
        refine sk ?_
        refine sq ?_
        refine rg ?_
        refine st (h := O) ?_
        refine clA [500001] [500001] [500001, 3] [(0, _), (3, _), (5, _)] [(500001, _)] [(3, _)] (h := by exact fun ι hV hl => hTc hgl2 hl16 _ (hv.le hl)) ?_
        intro r3 Y3 K3 hQ3 hp3 hN3
        obtain ⟨rfl, rfl, rfl⟩ := hQ3
        rw [Mem.add_nil]
        refine nl ?_
        iterate 2 (refine sq ?_)
        refine rg ?_
        iterate 2 (refine st (h := O) ?_)
        refine st (h := sdFA) ?_
        refine st (h := sdL) ?_
        refine st (h := O) ?_
        refine nl ?_
        refine cD (fun c2 => ?_) (fun c2 => ?_)
        · refine sq ?_
          refine rg ?_
          refine cl (h := by exact fun ι hV hl => wakes_C _) ?_
          refine st (h := O) ?_
          refine nl ?_
          exact rt ⟨rfl, rfl⟩
        · obtain ⟨hW1, hW2⟩ := hW hgl2 c2
          subst hW1
          refine sk ?_
          refine sq ?_
          refine dr 11 [500001, 3] [0, 2, 1001, 1003, 4, 5, 6, 7, 8, 9, 10] ?_
          refine dt (hv := by exact O) ?_
          refine dt (hv := by exact sdLN) ?_
          refine dclC (hkp := by first | exact Kept.all | exact Kept.k0 | exact Kept.kY | exact Kept.kYY | exact Kept.kY3) (h := by exact fun ι hV hl => Copy_C _ _ l (hv.le hl) (by omega) hgl) ?_
          intro p Y1 hQ1 hpv1 hpp1 hN1
          obtain ⟨hp, hI1⟩ := hQ1
          rcases hp with ⟨pb, po, pn, pc, rfl⟩ | ⟨pn, pc, rfl⟩
          all_goals
            refine dclC (hkp := by first | exact Kept.all | exact Kept.k0 | exact Kept.kY | exact Kept.kYY | exact Kept.kY3) (h := by exact fun ι hV hl => hB _ _ ((hI1 _ hN1.rows).le hl)) ?_
            intro u2 Y2 hQ2 hpv2 hpp2 hN2
            obtain ⟨w2, rfl, hw2, -⟩ := hQ2
            rcases hw2 with ⟨wb, wo, wn, wc, rfl⟩ | ⟨wn, wc, rfl⟩
            all_goals
              iterate 7 (refine dt (hv := by exact O) ?_)
              refine dn ?_
              refine sq ?_
              refine rg ?_
              iterate 3 (refine st (h := O) ?_)
              refine st (h := sdFA) ?_
              refine st (h := sdL) ?_
              refine st (h := sbEq) ?_
              refine st (h := O) ?_
              refine gB (fun g43 => ?_) (fun g43 => ?_)
              · refine sg (h := O) ?_
                iterate 2 (refine sg (h := O) ?_)
                refine gB (fun g46 => ?_) (fun g46 => ?_)
                · refine sp ?_
                  iterate 5 (refine sp ?_)
                  refine sg (h := O) ?_
                  iterate 2 (refine st (h := O) ?_)
                  refine clg (h := by exact fun ι hV hl => wakes_C _) ?_
                  iterate 2 (refine st (h := O) ?_)
                  refine nl ?_
                  rw [add_add]
                  refine J.dropF ?_
                  exact rt ⟨rfl, rfl⟩
                · have hWW := hW2 (by simpa using g46)
                  iterate 3 (refine sg (h := O) ?_)
                  refine sg (h := sdFA) ?_
                  refine sg (h := sdL) ?_
                  iterate 2 (refine sg (h := O) ?_)
                  iterate 2 (refine st (h := O) ?_)
                  refine gD (fun g55 => ?_) (fun g55 => ?_)
                  · refine clg (h := by exact fun ι hV hl => wakes_C _) ?_
                    iterate 2 (refine st (h := O) ?_)
                    refine nl ?_
                    rw [add_add]
                    refine J.dropF ?_
                    exact rt ⟨rfl, rfl⟩
                  · exact absurd hWW g55
              · simp at g43
  · subst hnil
    refine C.go hT Try.func4 Try.ntmps4 ?_
    refine sq ?_
    refine rg ?_
    refine bx ?_
    refine st (h := O) ?_
    refine nl ?_
    iterate 2 (refine sq ?_)
    refine rg ?_
    iterate 3 (refine st (h := O) ?_)
    refine nl ?_
    refine cD (fun c0 => ?_) (fun c0 => ?_)
    · exact absurd c0 (by decide)
    · refine sk ?_
      refine sq ?_
      refine rg ?_
      refine st (h := O) ?_
      refine st (h := sdLN) ?_
      refine st (h := O) ?_
      refine bx ?_
      refine st (h := O) ?_
      refine JL.retagP (d := 5) (t := 16) (u := 500001) (off := 0) [(0, _), (3, _), (4, _)] [(3, _)] ?_
      refine nl ?_
      iterate 2 (refine sq ?_)
      refine rg ?_
      refine st (h := O) ?_
      refine cl (h := by exact fun ι hV hl => RGood_C _ _ [] (hv.le hl)) ?_
      refine st (h := O) ?_
      refine nl ?_
      refine cB (fun c1 => ?_) (fun c1 => ?_)
      · refine sq ?_
        refine rg ?_
        refine cl (h := by exact fun ι hV hl => wakes_C _) ?_
        refine st (h := O) ?_
        refine nl ?_
        exact rt ⟨rfl, rfl⟩
      · exact absurd (of_not c1) (by decide)

end Go.Proofs.Ytbeblgjibfoanaa.Am
namespace Go.Proofs.Ytbeblgjibfoanaa.breaksAll
open Go.ChangeShapes Go.WideShapes Go.ChangeAt Go.RowKit
open Go.ChangeMaps (open_string shut_string)
set_option linter.unusedVariables false
theorem own : ownKnob Try.prog.godebug = none := by kernel_rfl
theorem laidOut : laidOutB Try.prog = true := by kernel_rfl
set_option maxRecDepth 100000 in
theorem lifted (os : Os) (started : os.Started) (H : Type) (enc : TypeId × Value → H) :
    ReturnsInHanded {} Try.checked os 4 .any (Rows.breaksAllSpec.pre6 enc Try.prog Try.f4 Rows.breaksAllRow.domain false) (Rows.breaksAllSpec.post enc Try.prog Try.f4 false true false false) := by
  refine returnsInHanded_of_change_sized (C := Try.checked) own started (by kernel_rfl) Try.func4
    (ChangeSpec.witness6 (enc := enc) (C := Try.checked) false ⟨#[], #[.slice none 0 0, .agg #[.int .i64 0, .int .i64 0, .int .i64 0, .int .i64 0, .int .i64 0]], []⟩ 8 (by kernel_rfl) (by kernel_rfl) (by kernel_rfl) (by kernel_rfl)) ?_
  intro W base args ds gs before hval0 hW hcnd hsz0 _
  have hsz : (DataW.weightsEach Try.prog (Try.f4.params.toList ++ Rows.breaksAllSpec.plain.varTypes Try.prog) (ds ++ gs)).all (· ≤ reachBytes) = true := hsz0
  have hval : ∀ (j : Nat) t v, Try.f4.params[j]? = some t → args[j]? = some v → Value.okWide Try.prog W .any base t v := hval0
  have hW' := hW
  obtain ⟨p, q, hA0, hV, rfl, hfz, hnd⟩ := hW
  have hA : DataW.TrodAll enc Try.prog W 0 (fun _ => true) true Try.f4.params.toList args.toList ds p := hA0
  rw [Try.params4] at hA hval hsz
  obtain ⟨v0, vs0, d0, ds0, p0, q0, hargs, rfl, rfl, h0, r0⟩ := trodAll_cons hA
  obtain ⟨v1, vs1, d1, ds1, p1, q1, rfl, rfl, rfl, h1, r1⟩ := trodAll_cons r0
  obtain ⟨rfl, rfl, rfl⟩ := trodAll_nil r1
  obtain rfl : args = #[v0, v1] := by cases args; simp_all
  obtain ⟨rfl, rfl⟩ := trodVars_none hV
  have k0 := h0
  have lt0 : ∀ x ∈ p0, x.block < W.heap.size := by obtain ⟨m, hm⟩ := k0; exact DataW.trod_lt m _ _ _ hm
  have sp0 := Am.okWide_spot Try.underlying22 (hval 0 22 v0 rfl rfl)
  obtain ⟨a0, n0, m0, rfl⟩ := okWide_slice Try.underlying22 (hval 0 22 v0 rfl rfl)
  obtain ⟨x0, f0, t0, g0, b0, c0⟩ := Am.openedS (enc := enc) (W := W) 104 Try.underlying22 (by kernel_rfl) (by kernel_rfl) (by decide) Am.opItem rfl sp0 h0 (Am.weigh hsz (j := 0) (t := 22) rfl rfl)
  have k1 := h1
  have lt1 : ∀ x ∈ p1, x.block < W.heap.size := by obtain ⟨m, hm⟩ := k1; exact DataW.trod_lt m _ _ _ hm
  obtain ⟨cs1, rfl, hcs1⟩ := okWide_struct Try.underlying24 (hval 1 24 v1 rfl rfl)
  obtain ⟨x1, f1, g1⟩ := Am.opened (enc := enc) (W := W) Am.opPar h1 (Am.weigh hsz (j := 1) (t := 24) rfl rfl)
  have t1 : Am.eV (.agg cs1) = .agg ⟨cs1.toList.map Am.e1⟩ := rfl
  have hrun := Am.C0.run_e (P := Try.prog) (f := 4) (args := [.slice a0 n0 m0, .agg cs1]) (W := W) (r := .bool true) (by
    simp only [List.map_cons, List.map_nil, t0, t1]
    exact (by rw [show Value.agg ⟨cs1.toList.map Am.e1⟩ = Am.Par.v x1 from f1]; exact Am.law4_C ⟨W, []⟩ _ x0 x1 (Am.RItems.ofS f0) g0)) (by intro v hv vs e; subst e; simp at hv) rfl
  clear hval0 hsz0 hsz hA0
  refine Calls.mono hrun fun e W' ⟨he, bel⟩ => ?_
  subst he
  exact ⟨_, rfl, _, _, _, [], _, [], hW', trodAll_mk1 (shut_bool Try.underlying4 _), (trodAll_cons_mk (Below.trod laidOut (by kernel_rfl) (of_decide_eq_true (by kernel_rfl)) k0 bel lt0) (trodAll_cons_mk (Below.trod laidOut (by kernel_rfl) (of_decide_eq_true (by kernel_rfl)) k1 bel lt1) trodAll_mk0)), rfl, bel.frame _, fun h => by cases h⟩
theorem over : Rows.breaksAllRow.holds Try.pinned (OpenSpec.ofChange Rows.breaksAllSpec) :=
  OpenClaim.holds_of_wide 4 Try.f4 rfl rfl rfl rfl rfl rfl rfl ⟨rfl, rfl, rfl, rfl, rfl⟩ rfl rfl rfl rfl rfl (by kernel_rfl) Try.func4 (by kernel_rfl)
    (of_decide_eq_true (by kernel_rfl)) (by unfold Func.isWrapper; first | (rw [if_pos (by decide +kernel)]; kernel_rfl) | (rw [if_neg (by decide +kernel)]; exact ⟨rfl, rfl⟩))
    (fun os started H enc _ => lifted os started H enc)
theorem proved : Rows.BreaksAllSaid := over
#print axioms proved
end Go.Proofs.Ytbeblgjibfoanaa.breaksAll
namespace Go.Proofs.Ytbeblgjibfoanaa
/-- The row, under a short name, for the claim. -/
theorem breaksAll_holds : Rows.BreaksAllSaid := breaksAll.proved
end Go.Proofs.Ytbeblgjibfoanaa
