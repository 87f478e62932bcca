/- Contracts: Break, and what wakes a statement -/
import Derived.Test.YtbeblgjibfoanaaV7
import Derived.Test.YtbeblgjibfoanaaU14
import Derived.Test.YtbeblgjibfoanaaU12
namespace Go.Proofs.Ytbeblgjibfoanaa.Am
set_option linter.unusedSimpArgs false
set_option linter.unusedVariables false
set_option maxRecDepth 100000
set_option maxHeartbeats 4000000
open Go Go.RowKit
def breakD (l : List Item) (x : Par) : (List Int × Int × Bool) × Int :=
  if goodL l = true then (if x.good = true then (if (bestD l x).2.2 = true then (bestD l x, 0) else ((firstD l x, 0, false), 0)) else (([], 0, false), 1)) else (([], 0, false), 220)
theorem SlV.plain {w : Value} (h : SlV w) : plain1 w = true := by
  rcases h with ⟨b, o, n, c, rfl⟩ | ⟨n, c, rfl⟩ <;> rfl
theorem Break_C (F : Mem) (v : Value) (l : List Item) (x : Par) (hv : RItems F v l) : C Try.prog 13 [v, x.v] F (fun u Y => ∃ w, u = .tuple #[.agg #[w, .int .i64 (breakD l x).1.2.1, .bool (breakD l x).1.2.2], .int .i64 (breakD l x).2] ∧ SlV w ∧ ∀ G, Rd G Y → RInts G w (breakD l x).1.1) := by
  have hn1 : ¬ goodL l = true → breakD l x = (([], 0, false), 220) := fun h => by rw [breakD, if_neg h]
  have hn2 : goodL l = true → ¬ x.good = true → breakD l x = (([], 0, false), 1) := fun h h2 => by rw [breakD, if_pos h, if_neg h2]
  have hy1 : goodL l = true → x.good = true → (bestD l x).2.2 = true → breakD l x = (bestD l x, 0) := fun h h2 h3 => by rw [breakD, if_pos h, if_pos h2, if_pos h3]
  have hy2 : goodL l = true → x.good = true → ¬ (bestD l x).2.2 = true → breakD l x = ((firstD l x, 0, false), 0) := fun h h2 h3 => by rw [breakD, if_pos h, if_pos h2, if_neg h3]
  have hBt : ∀ G, RItems G v l → _ := fun G h => Best_C G v l x h
  have hFt : ∀ G, RItems G v l → _ := fun G h => First_C G v l x h
  have hGd : ∀ G, _ := fun G => Good_C G x
  obtain ⟨xw, tol, line, twice, odd⟩ := x
  generalize hx : (⟨xw, tol, line, twice, odd⟩ : Par) = x at *
  have hxv : x.v = .agg #[.int .i64 xw, .int .i64 tol, .int .i64 line, .int .i64 twice, .int .i64 odd] := by rw [← hx]; rfl
  rw [hxv] at hBt hFt hGd ⊢
  rcases hv.forms with ⟨vb, vo, vc, rfl⟩ | ⟨rfl, rfl⟩
  ·
    refine C.go hT Try.func13 Try.ntmps13 ?_
    refine sq ?_
    refine rg ?_
    refine bx ?_
    refine al ?_
    refine st (h := O) ?_
    refine nl ?_
    refine sq ?_
    refine bl ?_
    refine sq ?_
    refine rg ?_
    refine st (h := O) ?_
    refine cl (h := by exact fun ι hV hl => IGood_C _ _ l (hv.le hl)) ?_
    iterate 2 (refine st (h := O) ?_)
    refine nl ?_
    refine cB (fun c0 => ?_) (fun c0 => ?_)
    · refine sq ?_
      refine rg ?_
      refine st (h := O) ?_
      refine so ?_
      refine st (h := O) ?_
      refine nl ?_
      refine rtX fun ι hV => ?_
      rw [hn1 (not_of c0)]
      exact ⟨_, rfl, .inr ⟨0, 0, rfl⟩, fun G hG => .inr ⟨rfl, rfl⟩⟩
    · refine sq ?_
      refine rg ?_
      refine st (h := sdLN) ?_
      refine cl (h := by exact fun ι hV hl => hGd _) ?_
      iterate 2 (refine st (h := O) ?_)
      refine nl ?_
      refine cB (fun c1 => ?_) (fun c1 => ?_)
      · refine sq ?_
        refine rg ?_
        refine st (h := O) ?_
        refine so ?_
        refine st (h := O) ?_
        refine nl ?_
        refine rtX fun ι hV => ?_
        rw [hn2 (of_not c0) (not_of c1)]
        exact ⟨_, rfl, .inr ⟨0, 0, rfl⟩, fun G hG => .inr ⟨rfl, rfl⟩⟩
      · refine sk ?_
        refine bk ?_
        iterate 2 (refine sq ?_)
        refine rg ?_
        refine st (h := O) ?_
        refine st (h := sdLN) ?_
        refine clC (h := by exact fun ι hV hl => hBt _ (hv.le hl)) ?_
        intro u1 Y1 hQ1 hpv1 hpp1 hN1
        obtain ⟨w1, rfl, hw1, hG1⟩ := hQ1
        rcases hw1 with ⟨wb, wo, wn, wc, rfl⟩ | ⟨wn, wc, rfl⟩
        all_goals
          iterate 7 (refine st (h := O) ?_)
          refine nl ?_
          refine sq ?_
          refine rg ?_
          refine st (h := O) ?_
          refine nl ?_
          refine cB (fun c2 => ?_) (fun c2 => ?_)
          · refine sq ?_
            refine rg ?_
            iterate 3 (refine st (h := O) ?_)
            refine so ?_
            refine st (h := O) ?_
            refine nl ?_
            refine rtY hpp1 fun ι hV => ?_
            rw [hy1 (of_not c0) (of_not c1) c2]
            exact ⟨_, by rw [c2]; rfl, by first | exact .inl ⟨_, _, _, _, rfl⟩ | exact .inr ⟨_, _, rfl⟩, fun G hG => hG1 G hG.app_right⟩
          · refine sk ?_
            refine sq ?_
            refine rg ?_
            refine st (h := O) ?_
            refine st (h := sdLN) ?_
            refine clC (h := by exact fun ι hV hl => hFt _ ((hv.le hN1.le).le hl)) ?_
            intro u2 Y2 hQ2 hpv2 hpp2 hN2
            have hw2 := (hQ2 _ hN2.rows).sl
            rw [add_add]
            rcases hw2 with ⟨xb, xo, xn, xc, rfl⟩ | ⟨xn, xc, rfl⟩
            all_goals
              refine st (h := O) ?_
              refine so ?_
              refine st (h := O) ?_
              refine nl ?_
              refine rtY (PlainRows.app hpp1 hpp2) fun ι hV => ?_
              rw [hy2 (of_not c0) (of_not c1) (by rw [c2]; decide)]
              exact ⟨_, rfl, by first | exact .inl ⟨_, _, _, _, rfl⟩ | exact .inr ⟨_, _, rfl⟩, fun G hG => hQ2 G hG.app_right.app_left⟩
  ·
    refine C.go hT Try.func13 Try.ntmps13 ?_
    refine sq ?_
    refine rg ?_
    refine bx ?_
    refine al ?_
    refine st (h := O) ?_
    refine nl ?_
    refine sq ?_
    refine bl ?_
    refine sq ?_
    refine rg ?_
    refine st (h := O) ?_
    refine cl (h := by exact fun ι hV hl => IGood_C _ _ [] (hv.le hl)) ?_
    iterate 2 (refine st (h := O) ?_)
    refine nl ?_
    refine cB (fun c0 => ?_) (fun c0 => ?_)
    · refine sq ?_
      refine rg ?_
      refine st (h := O) ?_
      refine so ?_
      refine st (h := O) ?_
      refine nl ?_
      refine rtX fun ι hV => ?_
      rw [hn1 (not_of c0)]
      exact ⟨_, rfl, .inr ⟨0, 0, rfl⟩, fun G hG => .inr ⟨rfl, rfl⟩⟩
    · cases of_not c0
theorem five_break : breakD fiveL ⟨25, 100, 10, 0, 0⟩ = (([3, 7, 11], 300, true), 0) := by decide +kernel
theorem five_first : firstD fiveL ⟨4, 0, 0, 0, 0⟩ = [1, 3, 5, 7, 11] := by decide +kernel
/-- one of the call's own rows of numbers, as its callee sees it -/
theorem Val.ints {ι : Nat → Nat} {K : Own} {F : Mem} (h : Val ι K F) {t n c : Nat} {r : Row} {xs : List Int} (hr : K.lookup t = some r) (hcs : r.cs = ivs xs) (hn : n = xs.length) (hl : xs.length ≤ 9223372036854775807) : RInts (push ι K F) (.slice (some ⟨ι t, 0, none⟩) n c) xs := by
  subst hn
  refine .inl ⟨ι t, 0, c, rfl, hl, fun i x hx => ?_⟩
  rw [Nat.zero_add]
  have := h.look hr (o := i) (v := .int .i64 x) (by rw [hcs]; exact ivs_get hx)
  exact this
theorem wakes_C (F : Mem) : C0 Try.prog 11 [] F (.bool true) := by
  have hB : ∀ G v, RItems G v fiveL → _ := fun G v h => Break_C G v fiveL ⟨25, 100, 10, 0, 0⟩ h
  rw [five_break] at hB
  have hF : ∀ G v, RItems G v fiveL → _ := fun G v h => First_C G v fiveL ⟨4, 0, 0, 0, 0⟩ h
  rw [five_first] at hF
  refine C.go hT Try.func11 Try.ntmps11 ?_
  refine sq ?_
  refine rg ?_
  refine st (h := O) ?_
  refine nl ?_
  refine sq ?_
  refine rg ?_
  refine clC (h := by exact fun ι hV hl => Five_C _) ?_
  intro u1 Y1 hQ1 hpv1 hpp1 hN1
  obtain ⟨hw1, hI1⟩ := hQ1
  have hI1' := hI1 _ hN1.rows
  rcases hI1'.forms with ⟨vb, vo, vc, rfl⟩ | ⟨-, hnil⟩
  rotate_left
  · exact absurd hnil (by decide)
  refine st (h := O) ?_
  refine clC (h := by exact fun ι hV hl => hB _ _ (hI1'.le hl)) ?_
  intro u2 Y2 hQ2 hpv2 hpp2 hN2
  obtain ⟨w2, rfl, hw2, hG2⟩ := hQ2
  have hG2' := hG2 _ hN2.rows
  rcases hG2' with ⟨wb, wo, wc, rfl, hw3⟩ | ⟨-, hnil⟩
  rotate_left
  · exact absurd hnil (by decide)
  have hG2' := hG2 _ hN2.rows
  iterate 3 (refine st (h := O) ?_)
  refine al ?_
  refine so ?_
  refine st (h := O) ?_
  refine nl ?_
  refine sq ?_
  refine rg ?_
  iterate 3 (refine st (h := O) ?_)
  refine gD (fun g11 => ?_) (fun g11 => ?_)
  · refine sg (h := sdFA) ?_
    refine sg (h := sdL) ?_
    iterate 2 (refine st (h := O) ?_)
    refine gB (fun g15 => ?_) (fun g15 => ?_)
    · refine sg (h := sdFA) ?_
      refine sg (h := sdL) ?_
      refine sg (h := O) ?_
      iterate 2 (refine st (h := O) ?_)
      refine gD (fun g20 => ?_) (fun g20 => ?_)
      · refine sg (h := sdFA) ?_
        refine sg (h := sdL) ?_
        refine slg ?_
        refine clg (h := by exact fun ι hV hl => Same_C _ _ _ [3, 7, 11] [3, 7, 11] (hG2'.le hl) (hV.ints (t := 23) rfl rfl rfl (by decide))) ?_
        iterate 2 (refine st (h := O) ?_)
        refine gB (fun g26 => ?_) (fun g26 => ?_)
        · refine clgC (h := by exact fun ι hV hl => Five_C _) ?_
          intro u3 Y3 hQ3 hpv3 hpp3 hN3
          obtain ⟨hw3', hI3⟩ := hQ3
          have hI3' := hI3 _ hN3.rows
          rcases hI3'.forms with ⟨vb3, vo3, vc3, rfl⟩ | ⟨-, hnil⟩
          rotate_left
          · exact absurd hnil (by decide)
          refine sg (h := O) ?_
          refine clgC (h := by exact fun ι hV hl => hF _ _ (hI3'.le hl)) ?_
          intro u4 Y4 hQ4 hpv4 hpp4 hN4
          have hG4 := hQ4 _ hN4.rows
          rcases hG4 with ⟨xb, xo, xc, rfl, hx3⟩ | ⟨-, hnil⟩
          rotate_left
          · exact absurd hnil (by decide)
          have hG4 := hQ4 _ hN4.rows
          refine slg ?_
          refine clg (h := by exact fun ι hV hl => Same_C _ _ _ [1, 3, 5, 7, 11] [1, 3, 5, 7, 11] (hG4.le hl) (hV.ints (t := 30) rfl rfl rfl (by decide))) ?_
          iterate 2 (refine st (h := O) ?_)
          refine nl ?_
          rw [add_add, add_add, add_add]
          refine J.dropF ?_
          refine rt ⟨?_, rfl⟩
          first | rfl | decide | simp
        · exact absurd g26 (by decide)
      · exact absurd rfl g20
    · cases g15
  · exact absurd rfl g11

end Go.Proofs.Ytbeblgjibfoanaa.Am
