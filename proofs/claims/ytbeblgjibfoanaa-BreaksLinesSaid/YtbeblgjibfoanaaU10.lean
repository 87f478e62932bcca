/- Contracts: a paragraph made ready -/
import Derived.Test.YtbeblgjibfoanaaU6
import Derived.Test.YtbeblgjibfoanaaB2
namespace Go.Proofs.Ytbeblgjibfoanaa.Am
set_option linter.unusedSimpArgs false
set_option linter.unusedVariables false
set_option maxRecDepth 100000
set_option maxHeartbeats 4000000
open Go Go.RowKit
theorem foA_step {l : List Item} {k : Nat} (h : k < l.length) : foA l k = if forceB (at_ l k) = true then k else foA l (k + 1) := by
  unfold foA
  rw [show l.length - k = (l.length - (k + 1)) + 1 from by omega]
  rfl
theorem bgA_step {l : List Item} {k : Nat} (h : k < l.length) : bgA l k = if forceB (at_ l k) = true then k else if (at_ l k).kind = 1 then k else bgA l (k + 1) := by
  unfold bgA
  rw [show l.length - k = (l.length - (k + 1)) + 1 from by omega]
  rfl
theorem foA_end (l : List Item) : foA l l.length = l.length := by simp [foA, foD]
theorem bgA_end (l : List Item) : bgA l l.length = l.length := by simp [bgA, bgD]
theorem ready_C (F : Mem) (v : Value) (l : List Item) (hv : RItems F v l) (hg : goodL l = true) : C Try.prog 36 [v] F (fun u Y => ∀ G, RItems G v l → Rd G Y → RPara G u l) := by
  have hlen := good_len hg
  rcases hv.cases with ⟨b, off, c, rfl, _, hr⟩ | ⟨rfl, rfl⟩
  ·
    refine C.go hT Try.func36 Try.ntmps36 ?_
    refine sq ?_
    refine rg ?_
    refine st (h := O) ?_
    refine nl ?_
    refine sq ?_
    refine rg ?_
    iterate 3 (refine st (h := O) ?_)
    refine nl ?_
    refine sq ?_
    refine dr 19 [] [0, 1, 2, 4, 5, 7, 8, 10, 11, 13, 14, 1614100704, 16, 1017, 18] ?_
    iterate 2 (refine dt (hv := by exact O) ?_)
    refine dt (hv := by exact sdA) ?_
    refine dt (hv := by exact O) ?_
    refine dt (hv := by exact sdA) ?_
    refine dt (hv := by exact O) ?_
    refine dt (hv := by exact sdA) ?_
    refine dt (hv := by exact O) ?_
    refine dt (hv := by exact sdA) ?_
    refine dt (hv := by exact O) ?_
    refine dt (hv := by exact sdA) ?_
    refine dmksI (ty := 28) (q := (l.length : Int) + 1) (ms := [3, 6, 9, 12, 15]) (l.length + 1) (fun m => m + 10) (L0 := [(0, .slice (some ⟨b, off, none⟩) l.length c), (3, .int .i64 l.length), (10, .slice (some ⟨b, off, none⟩) l.length c)]) ?_ ?_ ?_ ?_ ?_ ⟨rfl, rfl, rfl, trivial⟩ (by omega) (by omega) (by simp)
    rotate_left
    all_goals try (intro m hm; simp only [List.mem_cons, List.not_mem_nil, or_false] at hm)
    · rcases hm with rfl | rfl | rfl | rfl | rfl <;> exact ⟨_, _, _, rfl, rfl, rfl, rfl, rfl, rfl⟩
    · rcases hm with rfl | rfl | rfl | rfl | rfl <;> exact Nat.le_of_ble_eq_true rfl
    · rcases hm with rfl | rfl | rfl | rfl | rfl <;> rfl
    · rcases hm with rfl | rfl | rfl | rfl | rfl <;> rfl
    refine dt (hv := by exact O) ?_
    refine dbx ?_
    refine dt (hv := by exact O) ?_
    refine dn ?_
    iterate 2 (refine sq ?_)
    refine rg ?_
    iterate 3 (refine st (h := O) ?_)
    refine nl ?_
    refine bl ?_
    refine J.loop4 (α := Nat) (β := Nat → Int) (γ := Nat → Int) (δ := Nat → Int) (fun k W Y Z => k ≤ l.length ∧ ∀ j, j ≤ k → W j = wS l j ∧ Y j = yS l j ∧ Z j = zS l j) (fun k W Y Z => [(30, .int .i64 k)]) [(0, _), (3, _), (4, _), (28, _), (29, _)] (fun k W Y Z => [(13, rI W (l.length + 1)), (16, rI Y (l.length + 1)), (19, rI Z (l.length + 1))]) [(27, _), (22, _), (25, _)] (fun k W Y Z => l.length - k) (0) (fun _ => 0) (fun _ => 0) (fun _ => 0) (by exact ⟨rfl, trivial⟩) (by exact ⟨rfl, rfl, rfl, rfl, rfl, trivial⟩) (by exact ⟨rfl, rfl, rfl, rfl, rfl, rfl, rfl, rfl, rfl, rfl, rfl, rfl, trivial⟩) ?_ ?_
    · exact ⟨Nat.zero_le _, fun j hj => by rw [Nat.le_zero.1 hj]; exact ⟨rfl, rfl, rfl⟩⟩
    · intro k W Y Z L1 K1 e1 e2 hI
      dsimp only [apV, apR, List.cons_append, List.nil_append] at e1 e2
      subst e1 e2
      obtain ⟨hk, hW⟩ := hI
      refine sq ?_
      refine rg ?_
      refine st (h := O) ?_
      refine nl ?_
      refine sq ?_
      refine cD (fun c0 => ?_) (fun c0 => ?_)
      · have hkl : k < l.length := by omega
        obtain ⟨r0, r1, r2, r3, r4, r5, g, hg2, hri⟩ := hr k hkl
        have hN : rdN F [] ⟨b, off + (k : Int).toNat * 11, none⟩ 11 = some ((at_ l k).cells g) := hg2
        have hok := good_ok hg hkl
        simp only [Item.ok, decide_eq_true_eq] at hok
        have hsb := sums_bd hg k (by omega)
        have e1 : (0 + ((k : Int) + 1).toNat * 1) = k + 1 := by omega
        have e2 : (0 + (k : Int).toNat * 1) = k := by omega
        rcases hri with (⟨gb, go, gc, rfl, _, _⟩ | ⟨rfl, _⟩) | ⟨gb, go, gsp, rfl, _⟩
        all_goals
          refine sk ?_
          refine sq ?_
          refine bl ?_
          refine sq ?_
          refine rg ?_
          refine st (h := O) ?_
          refine st (h := (sdX (z := 11))) ?_
          refine st (h := sdLN) ?_
          refine al ?_
          refine st (h := O) ?_
          refine so ?_
          refine nl ?_
          refine sq ?_
          refine J.cut3 (α := Nat → Int) (β := Nat → Int) (γ := Nat → Int) (fun W' Y' Z' => (W' (0 + ((k : Int) + 1).toNat * 1) = wS l k ∧ Y' (0 + ((k : Int) + 1).toNat * 1) = yS l k ∧ Z' (0 + ((k : Int) + 1).toNat * 1) = zS l k) ∧ ∀ j, j ≤ k → W' j = wS l j ∧ Y' j = yS l j ∧ Z' j = zS l j) (fun W' Y' Z' => []) [(0, _), (3, _), (4, _), (5, _), (6, _), (28, _), (29, _), (30, _)] (fun W' Y' Z' => [(13, rI W' (l.length + 1)), (16, rI Y' (l.length + 1)), (19, rI Z' (l.length + 1))]) [(6, _), (27, _), (22, _), (25, _)] (by exact ⟨rfl, rfl, rfl, rfl, rfl, rfl, rfl, rfl, trivial⟩) (by exact ⟨rfl, rfl, rfl, rfl, rfl, rfl, rfl, rfl, trivial⟩) ?_ ?_
          · refine dr 40 [6, 13, 16, 19, 27, 22, 25] [0, 1, 2, 3, 4, 5, 2006, 2007, 2008, 9, 2010, 2011, 2012, 2013, 2014, 15, 2016, 2017, 18, 19, 20, 21, 22, 23, 24, 2025, 2026, 2027, 28, 2029, 2030, 31, 2032, 2033, 2034, 35, 2036, 2037, 38, 39, 1040, 2041, 1042, 2043, 1044] ?_
            iterate 2 (refine dt (hv := by exact O) ?_)
            refine dt (hv := by exact sdFA) ?_
            refine dt (hv := by exact sdL) ?_
            refine dt (hv := by exact O) ?_
            refine dt (hv := by exact sdA) ?_
            iterate 2 (refine dq (hv := by exact fun _ _ => O) ?_)
            refine dq (hv := by exact fun _ _ => sdFA) ?_
            refine dt (hv := by exact sdL) ?_
            refine dq (hv := by exact fun _ _ => O) ?_
            refine dq (hv := by exact fun _ _ => sdA) ?_
            iterate 2 (refine dq (hv := by exact fun _ _ => O) ?_)
            refine dq (hv := by exact fun _ _ => sdFA) ?_
            refine dt (hv := by exact sdL) ?_
            refine dq (hv := by exact fun _ _ => O) ?_
            refine dq (hv := by exact fun _ _ => sdA) ?_
            iterate 2 (refine dt (hv := by exact O) ?_)
            refine dt (hv := by exact sdFA) ?_
            refine dt (hv := by exact sdL) ?_
            refine dt (hv := by exact O) ?_
            refine dt (hv := by exact (sdX (z := 1))) ?_
            refine dt (hv := by exact (by first | exact sdLG | exact sdW)) ?_
            iterate 2 (refine dq (hv := by exact fun _ _ => O) ?_)
            refine dq (hv := by exact fun _ _ => sdFA) ?_
            refine dt (hv := by exact sdL) ?_
            refine dq (hv := by exact fun _ _ => O) ?_
            refine dq (hv := by exact fun _ _ => (sdX (z := 1))) ?_
            refine dt (hv := by exact (by first | exact sdLG | exact sdW)) ?_
            iterate 2 (refine dq (hv := by exact fun _ _ => O) ?_)
            refine dq (hv := by exact fun _ _ => sdFA) ?_
            refine dt (hv := by exact sdL) ?_
            refine dq (hv := by exact fun _ _ => O) ?_
            refine dq (hv := by exact fun _ _ => (sdX (z := 1))) ?_
            refine dt (hv := by exact (by first | exact sdLG | exact sdW)) ?_
            refine dt (hv := by exact (sdX (z := 1))) ?_
            first | refine dsoG ?_ | refine dso ?_
            refine dq (hv := by exact fun _ _ => (sdX (z := 1))) ?_
            first | refine dsoG ?_ | refine dso ?_
            refine dq (hv := by exact fun _ _ => (sdX (z := 1))) ?_
            first | refine dsoG ?_ | refine dso ?_
            refine dn ?_
            refine ck3 (_) (_) (_) (by exact trivial) (by exact ⟨rfl, rfl, rfl, rfl, rfl, rfl, rfl, rfl, trivial⟩) (by exact ⟨rfl, rfl, rfl, rfl, rfl, rfl, rfl, rfl, rfl, rfl, rfl, rfl, rfl, rfl, trivial⟩) ?_
            obtain ⟨hW1, hW2, hW3⟩ := hW k (Nat.le_refl _)
            rw [e1, e2]
            refine ⟨⟨by simp [setI, hW1], by simp [setI, hW2], by simp [setI, hW3]⟩, fun j hj => ?_⟩
            have : j ≠ k + 1 := by omega
            simp [setI, this, hW j hj]
          · intro W' Y' Z' L1 K1 e1 e2 hI
            dsimp only [List.cons_append, List.nil_append] at e1 e2
            subst e1 e2
            obtain ⟨⟨n1, n2, n3⟩, ho⟩ := hI
            iterate 2 (refine sq ?_)
            refine rg ?_
            refine st (h := sdFA) ?_
            refine st (h := sdL) ?_
            refine st (h := O) ?_
            refine nl ?_
            refine cN (fun c1 => ?_) (fun c1 => ?_)
            · refine dr 12 [13, 16, 19, 6, 27, 22, 25] [0, 1, 2, 3, 4, 5, 6, 7, 8, 9, 10, 11, 1012] ?_
              iterate 2 (refine dt (hv := by exact O) ?_)
              refine dt (hv := by exact sdFA) ?_
              refine dt (hv := by exact sdL) ?_
              refine dt (hv := by exact O) ?_
              refine dt (hv := by exact sdA) ?_
              refine dt (hv := by exact (sdX (z := 1))) ?_
              refine dt (hv := by exact (by first | exact sdLG | exact sdW)) ?_
              refine dt (hv := by exact sdFA) ?_
              refine dt (hv := by exact sdL) ?_
              refine dt (hv := by exact sdA) ?_
              refine dt (hv := by exact (sdX (z := 1))) ?_
              first | refine dsoG ?_ | refine dso ?_
              refine dn ?_
              refine sq ?_
              refine rg ?_
              refine st (h := sdFA) ?_
              refine st (h := sdL) ?_
              refine st (h := O) ?_
              refine nl ?_
              refine cD (fun c2 => ?_) (fun c2 => ?_)
              · refine sq ?_
                refine dr 12 [13, 16, 19, 6, 27, 22, 25] [0, 1, 2, 3, 4, 5, 6, 7, 8, 9, 10, 11, 1012] ?_
                iterate 2 (refine dt (hv := by exact O) ?_)
                refine dt (hv := by exact sdFA) ?_
                refine dt (hv := by exact sdL) ?_
                refine dt (hv := by exact O) ?_
                refine dt (hv := by exact sdA) ?_
                refine dt (hv := by exact (sdX (z := 1))) ?_
                refine dt (hv := by exact (by first | exact sdLG | exact sdW)) ?_
                refine dt (hv := by exact sdFA) ?_
                refine dt (hv := by exact sdL) ?_
                refine dt (hv := by exact sdA) ?_
                refine dt (hv := by exact (sdX (z := 1))) ?_
                first | refine dsoG ?_ | refine dso ?_
                refine dn ?_
                refine dr 12 [13, 16, 19, 6, 27, 22, 25] [0, 1, 2, 3, 4, 5, 6, 7, 8, 9, 10, 11, 1012] ?_
                iterate 2 (refine dt (hv := by exact O) ?_)
                refine dt (hv := by exact sdFA) ?_
                refine dt (hv := by exact sdL) ?_
                refine dt (hv := by exact O) ?_
                refine dt (hv := by exact sdA) ?_
                refine dt (hv := by exact (sdX (z := 1))) ?_
                refine dt (hv := by exact (by first | exact sdLG | exact sdW)) ?_
                refine dt (hv := by exact sdFA) ?_
                refine dt (hv := by exact sdL) ?_
                refine dt (hv := by exact sdA) ?_
                refine dt (hv := by exact (sdX (z := 1))) ?_
                first | refine dsoG ?_ | refine dso ?_
                refine dn ?_
                refine bk ?_
                refine rg ?_
                refine st (h := sdA) ?_
                refine st (h := O) ?_
                refine nl ?_
                refine bk4 (k + 1) (_) (_) (_) (by exact ⟨rfl, trivial⟩) (by exact ⟨rfl, rfl, rfl, rfl, rfl, trivial⟩) (by exact ⟨rfl, rfl, rfl, rfl, rfl, rfl, rfl, rfl, rfl, rfl, rfl, rfl, trivial⟩) ?_ ?_
                · omega
                · refine ⟨by omega, fun j hj => ?_⟩
                  simp only [e1] at *
                  rcases Nat.lt_or_ge k j with h | h
                  · obtain rfl : j = k + 1 := by omega
                    first | (exfalso; omega) | simp [setI, wS, yS, zS, *]
                  · have : j ≠ k + 1 := by omega
                    simp [setI, this, ho j h]
              · refine sk ?_
                refine bk ?_
                refine rg ?_
                refine st (h := sdA) ?_
                refine st (h := O) ?_
                refine nl ?_
                refine bk4 (k + 1) (_) (_) (_) (by exact ⟨rfl, trivial⟩) (by exact ⟨rfl, rfl, rfl, rfl, rfl, trivial⟩) (by exact ⟨rfl, rfl, rfl, rfl, rfl, rfl, rfl, rfl, rfl, rfl, rfl, rfl, trivial⟩) ?_ ?_
                · omega
                · refine ⟨by omega, fun j hj => ?_⟩
                  simp only [e1] at *
                  rcases Nat.lt_or_ge k j with h | h
                  · obtain rfl : j = k + 1 := by omega
                    first | (exfalso; omega) | simp [setI, wS, yS, zS, *]
                  · have : j ≠ k + 1 := by omega
                    simp [setI, this, ho j h]
            · refine sk ?_
              refine sq ?_
              refine rg ?_
              refine st (h := sdFA) ?_
              refine st (h := sdL) ?_
              refine st (h := O) ?_
              refine nl ?_
              refine cD (fun c2 => ?_) (fun c2 => ?_)
              · refine sq ?_
                refine dr 12 [13, 16, 19, 6, 27, 22, 25] [0, 1, 2, 3, 4, 5, 6, 7, 8, 9, 10, 11, 1012] ?_
                iterate 2 (refine dt (hv := by exact O) ?_)
                refine dt (hv := by exact sdFA) ?_
                refine dt (hv := by exact sdL) ?_
                refine dt (hv := by exact O) ?_
                refine dt (hv := by exact sdA) ?_
                refine dt (hv := by exact (sdX (z := 1))) ?_
                refine dt (hv := by exact (by first | exact sdLG | exact sdW)) ?_
                refine dt (hv := by exact sdFA) ?_
                refine dt (hv := by exact sdL) ?_
                refine dt (hv := by exact sdA) ?_
                refine dt (hv := by exact (sdX (z := 1))) ?_
                first | refine dsoG ?_ | refine dso ?_
                refine dn ?_
                refine dr 12 [13, 16, 19, 6, 27, 22, 25] [0, 1, 2, 3, 4, 5, 6, 7, 8, 9, 10, 11, 1012] ?_
                iterate 2 (refine dt (hv := by exact O) ?_)
                refine dt (hv := by exact sdFA) ?_
                refine dt (hv := by exact sdL) ?_
                refine dt (hv := by exact O) ?_
                refine dt (hv := by exact sdA) ?_
                refine dt (hv := by exact (sdX (z := 1))) ?_
                refine dt (hv := by exact (by first | exact sdLG | exact sdW)) ?_
                refine dt (hv := by exact sdFA) ?_
                refine dt (hv := by exact sdL) ?_
                refine dt (hv := by exact sdA) ?_
                refine dt (hv := by exact (sdX (z := 1))) ?_
                first | refine dsoG ?_ | refine dso ?_
                refine dn ?_
                refine bk ?_
                refine rg ?_
                refine st (h := sdA) ?_
                refine st (h := O) ?_
                refine nl ?_
                refine bk4 (k + 1) (_) (_) (_) (by exact ⟨rfl, trivial⟩) (by exact ⟨rfl, rfl, rfl, rfl, rfl, trivial⟩) (by exact ⟨rfl, rfl, rfl, rfl, rfl, rfl, rfl, rfl, rfl, rfl, rfl, rfl, trivial⟩) ?_ ?_
                · omega
                · refine ⟨by omega, fun j hj => ?_⟩
                  simp only [e1] at *
                  rcases Nat.lt_or_ge k j with h | h
                  · obtain rfl : j = k + 1 := by omega
                    first | (exfalso; omega) | simp [setI, wS, yS, zS, *]
                  · have : j ≠ k + 1 := by omega
                    simp [setI, this, ho j h]
              · refine sk ?_
                refine bk ?_
                refine rg ?_
                refine st (h := sdA) ?_
                refine st (h := O) ?_
                refine nl ?_
                refine bk4 (k + 1) (_) (_) (_) (by exact ⟨rfl, trivial⟩) (by exact ⟨rfl, rfl, rfl, rfl, rfl, trivial⟩) (by exact ⟨rfl, rfl, rfl, rfl, rfl, rfl, rfl, rfl, rfl, rfl, rfl, rfl, trivial⟩) ?_ ?_
                · omega
                · refine ⟨by omega, fun j hj => ?_⟩
                  simp only [e1] at *
                  rcases Nat.lt_or_ge k j with h | h
                  · obtain rfl : j = k + 1 := by omega
                    first | (exfalso; omega) | simp [setI, wS, yS, zS, *]
                  · have : j ≠ k + 1 := by omega
                    simp [setI, this, ho j h]
      · obtain rfl : k = l.length := by omega
        refine ex ?_
        refine sq ?_
        refine dr 13 [13, 16, 19, 27, 22, 25] [0, 1, 2, 3, 4, 2005, 2006, 2007, 8, 2009, 10, 2011, 12, 1013, 2014, 1015] ?_
        iterate 2 (refine dt (hv := by exact O) ?_)
        refine dt (hv := by exact sdFA) ?_
        refine dt (hv := by exact sdL) ?_
        refine dt (hv := by exact O) ?_
        iterate 2 (refine dq (hv := by exact fun _ _ => O) ?_)
        refine dq (hv := by exact fun _ _ => sdFA) ?_
        refine dt (hv := by exact sdL) ?_
        refine dq (hv := by exact fun _ _ => O) ?_
        refine dt (hv := by exact O) ?_
        refine dq (hv := by exact fun _ _ => O) ?_
        refine dt (hv := by exact (sdX (z := 1))) ?_
        first | refine dsoG ?_ | refine dso ?_
        refine dq (hv := by exact fun _ _ => (sdX (z := 1))) ?_
        first | refine dsoG ?_ | refine dso ?_
        refine dn ?_
        iterate 2 (refine sq ?_)
        refine rg ?_
        refine st (h := O) ?_
        refine st (h := sdS) ?_
        refine st (h := O) ?_
        refine nl ?_
        refine bl ?_
        refine J.loop3 (α := Int) (β := Nat → Int) (γ := Nat → Int) (fun i B Fo => -1 ≤ i ∧ i < l.length ∧ ∀ j : Nat, i < j → j ≤ l.length → B j = bgA l j ∧ Fo j = foA l j) (fun i B Fo => [(7, .int .i64 i)]) [(0, _), (4, _)] (fun i B Fo => [(22, rI B (l.length + 1)), (25, rI Fo (l.length + 1))]) [(13, _), (16, _), (19, _), (27, _)] (fun i B Fo => (i + 1).toNat) (_) (_) (_) (by exact ⟨rfl, trivial⟩) (by exact ⟨rfl, rfl, trivial⟩) (by exact ⟨rfl, rfl, rfl, rfl, rfl, rfl, rfl, rfl, rfl, rfl, rfl, rfl, trivial⟩) ?_ ?_
        · refine ⟨by omega, by omega, fun j hj hj2 => ?_⟩
          obtain rfl : j = l.length := by omega
          simp [setI, foA_end, bgA_end]
        · intro i B Fo L1 K1 e1 e2 hI
          dsimp only [apV, apR, List.cons_append, List.nil_append] at e1 e2
          subst e1 e2
          obtain ⟨hi0, hil, hB⟩ := hI
          iterate 2 (refine sq ?_)
          refine rg ?_
          iterate 2 (refine st (h := O) ?_)
          refine nl ?_
          refine cD (fun c3 => ?_) (fun c3 => ?_)
          · obtain ⟨k, rfl⟩ := Int.eq_ofNat_of_zero_le (show (0 : Int) ≤ i by omega)
            have hkl : k < l.length := by omega
            have e1 : (0 + ((k : Int) + 1).toNat * 1) = k + 1 := by omega
            have e2 : (0 + (k : Int).toNat * 1) = k := by omega
            obtain ⟨r0, r1, r2, r3, r4, r5, g, hg2, hri⟩ := hr k hkl
            have hN : rdN F [] ⟨b, off + (k : Int).toNat * 11, none⟩ 11 = some ((at_ l k).cells g) := hg2
            have hsv := hri.sl
            rcases hri with (⟨gb, go, gc, rfl, _, _⟩ | ⟨rfl, _⟩) | ⟨gb, go, gsp, rfl, _⟩
            all_goals
              refine sk ?_
              refine sq ?_
              refine bl ?_
              refine sq ?_
              refine J.cut2 (α := Nat → Int) (β := Nat → Int) (fun B' Fo' => (B' (0 + (k : Int).toNat * 1) = k ∧ Fo' (0 + (k : Int).toNat * 1) = foA l (k + 1)) ∧ ∀ j : Nat, k < j → j ≤ l.length → B' j = bgA l j ∧ Fo' j = foA l j) (fun B' Fo' => []) [(0, _), (4, _), (7, _)] (fun B' Fo' => [(22, rI B' (l.length + 1)), (25, rI Fo' (l.length + 1))]) [(13, _), (16, _), (19, _), (27, _)] (by exact ⟨rfl, rfl, rfl, trivial⟩) (by exact ⟨rfl, rfl, rfl, rfl, rfl, rfl, rfl, rfl, trivial⟩) ?_ ?_
              · refine dr 20 [22, 25, 13, 16, 19, 27] [0, 1, 2, 3, 4, 2005, 2006, 2007, 8, 2009, 10, 2011, 2012, 2013, 14, 2015, 2016, 2017, 18, 19, 1020, 2021, 1022] ?_
                iterate 2 (refine dt (hv := by exact O) ?_)
                refine dt (hv := by exact sdFA) ?_
                refine dt (hv := by exact sdL) ?_
                refine dt (hv := by exact O) ?_
                iterate 2 (refine dq (hv := by exact fun _ _ => O) ?_)
                refine dq (hv := by exact fun _ _ => sdFA) ?_
                refine dt (hv := by exact sdL) ?_
                refine dq (hv := by exact fun _ _ => O) ?_
                refine dt (hv := by exact O) ?_
                iterate 2 (refine dq (hv := by exact fun _ _ => O) ?_)
                refine dq (hv := by exact fun _ _ => sdFA) ?_
                refine dt (hv := by exact sdL) ?_
                refine dq (hv := by exact fun _ _ => O) ?_
                refine dq (hv := by exact fun _ _ => sdA) ?_
                refine dq (hv := by exact fun _ _ => (sdX (z := 1))) ?_
                refine dt (hv := by exact (by first | exact sdLG | exact sdW)) ?_
                refine dt (hv := by exact (sdX (z := 1))) ?_
                first | refine dsoG ?_ | refine dso ?_
                refine dq (hv := by exact fun _ _ => (sdX (z := 1))) ?_
                first | refine dsoG ?_ | refine dso ?_
                refine dn ?_
                refine ck2 (_) (_) (by exact trivial) (by exact ⟨rfl, rfl, rfl, trivial⟩) (by exact ⟨rfl, rfl, rfl, rfl, rfl, rfl, rfl, rfl, rfl, rfl, rfl, rfl, trivial⟩) ?_
                obtain ⟨hW1, hW2⟩ := hB (k + 1) (by omega) (by omega)
                rw [e1, e2]
                refine ⟨⟨by simp [setI], by simp [setI, hW2]⟩, fun j hj hj2 => ?_⟩
                have : j ≠ k := by omega
                simp [setI, this, hB j (by omega) hj2]
              · intro B' Fo' L1 K1 e1 e2 hI
                dsimp only [List.cons_append, List.nil_append] at e1 e2
                subst e1 e2
                obtain ⟨⟨n1, n2⟩, ho⟩ := hI
                refine sq ?_
                refine rg ?_
                iterate 2 (refine st (h := O) ?_)
                refine st (h := (sdX (z := 11))) ?_
                refine st (h := sdLN) ?_
                refine cl (h := by exact fun ι hV hl => force_C _ (at_ l k) _ hsv) ?_
                refine nl ?_
                refine cB (fun c4 => ?_) (fun c4 => ?_)
                · refine rg ?_
                  iterate 2 (refine st (h := O) ?_)
                  refine st (h := sdFA) ?_
                  refine st (h := sdL) ?_
                  iterate 2 (refine st (h := O) ?_)
                  refine st (h := (sdX (z := 1))) ?_
                  first | refine soG ?_ | refine so ?_
                  refine nl ?_
                  refine bk ?_
                  refine rg ?_
                  refine st (h := O) ?_
                  refine st (h := sdS) ?_
                  refine st (h := O) ?_
                  refine nl ?_
                  refine bk3 (_) (_) (_) (by exact ⟨rfl, trivial⟩) (by exact ⟨rfl, rfl, trivial⟩) (by exact ⟨rfl, rfl, rfl, rfl, rfl, rfl, rfl, rfl, rfl, rfl, rfl, rfl, trivial⟩) ?_ ?_
                  · omega
                  · refine ⟨by omega, by omega, fun j hj hj2 => ?_⟩
                    simp only [e1, e2] at *
                    rcases Nat.lt_or_ge k j with h | h
                    · have : j ≠ k := by omega
                      simp [setI, this, ho j h hj2]
                    · obtain rfl : j = k := by omega
                      have h9 := ho (j + 1) (by omega) (by omega)
                      simp [setI, foA_step hkl, bgA_step hkl, *]
                · refine sq ?_
                  refine rg ?_
                  iterate 2 (refine st (h := O) ?_)
                  refine st (h := (sdX (z := 11))) ?_
                  refine st (h := sdFA) ?_
                  refine st (h := sdL) ?_
                  refine st (h := O) ?_
                  refine nl ?_
                  refine cN (fun c5 => ?_) (fun c5 => ?_)
                  · refine dr 14 [22, 25, 13, 16, 19, 27] [0, 1, 2, 3, 4, 5, 6, 7, 8, 9, 10, 11, 12, 13, 1014] ?_
                    iterate 2 (refine dt (hv := by exact O) ?_)
                    refine dt (hv := by exact sdFA) ?_
                    refine dt (hv := by exact sdL) ?_
                    iterate 3 (refine dt (hv := by exact O) ?_)
                    refine dt (hv := by exact sdFA) ?_
                    refine dt (hv := by exact sdL) ?_
                    refine dt (hv := by exact O) ?_
                    refine dt (hv := by exact sdA) ?_
                    refine dt (hv := by exact (sdX (z := 1))) ?_
                    refine dt (hv := by exact (by first | exact sdLG | exact sdW)) ?_
                    refine dt (hv := by exact (sdX (z := 1))) ?_
                    first | refine dsoG ?_ | refine dso ?_
                    refine dn ?_
                    refine bk ?_
                    refine rg ?_
                    refine st (h := O) ?_
                    refine st (h := sdS) ?_
                    refine st (h := O) ?_
                    refine nl ?_
                    refine bk3 (_) (_) (_) (by exact ⟨rfl, trivial⟩) (by exact ⟨rfl, rfl, trivial⟩) (by exact ⟨rfl, rfl, rfl, rfl, rfl, rfl, rfl, rfl, rfl, rfl, rfl, rfl, trivial⟩) ?_ ?_
                    · omega
                    · refine ⟨by omega, by omega, fun j hj hj2 => ?_⟩
                      simp only [e1, e2] at *
                      rcases Nat.lt_or_ge k j with h | h
                      · have : j ≠ k := by omega
                        simp [setI, this, ho j h hj2]
                      · obtain rfl : j = k := by omega
                        have h9 := ho (j + 1) (by omega) (by omega)
                        simp [setI, foA_step hkl, bgA_step hkl, *]
                  · refine sk ?_
                    refine bk ?_
                    refine rg ?_
                    refine st (h := O) ?_
                    refine st (h := sdS) ?_
                    refine st (h := O) ?_
                    refine nl ?_
                    refine bk3 (_) (_) (_) (by exact ⟨rfl, trivial⟩) (by exact ⟨rfl, rfl, trivial⟩) (by exact ⟨rfl, rfl, rfl, rfl, rfl, rfl, rfl, rfl, rfl, rfl, rfl, rfl, trivial⟩) ?_ ?_
                    · omega
                    · refine ⟨by omega, by omega, fun j hj hj2 => ?_⟩
                      simp only [e1, e2] at *
                      rcases Nat.lt_or_ge k j with h | h
                      · have : j ≠ k := by omega
                        simp [setI, this, ho j h hj2]
                      · obtain rfl : j = k := by omega
                        have h9 := ho (j + 1) (by omega) (by omega)
                        simp [setI, foA_step hkl, bgA_step hkl, *]
          · obtain rfl : i = -1 := by omega
            refine ex ?_
            refine sq ?_
            refine rg ?_
            iterate 2 (refine st (h := O) ?_)
            refine nl ?_
            refine rtX fun ι hV G hG hY => ?_
            refine ⟨ι 27, 0, b, off, c, ι 13, 0, l.length + 1, ι 16, 0, l.length + 1, ι 19, 0, l.length + 1, ι 22, 0, l.length + 1, ι 25, 0, l.length + 1, rfl, ⟨?_, ?_, ?_, ?_, ?_, ?_⟩, hG, fun i hi => ?_⟩
            · exact hY (ι 27, Row.r ι _) (by repeat (first | exact List.mem_cons_self .. | apply List.mem_cons_of_mem)) 0 _ rfl
            · exact hY (ι 27, Row.r ι _) (by repeat (first | exact List.mem_cons_self .. | apply List.mem_cons_of_mem)) 1 _ rfl
            · exact hY (ι 27, Row.r ι _) (by repeat (first | exact List.mem_cons_self .. | apply List.mem_cons_of_mem)) 2 _ rfl
            · exact hY (ι 27, Row.r ι _) (by repeat (first | exact List.mem_cons_self .. | apply List.mem_cons_of_mem)) 3 _ rfl
            · exact hY (ι 27, Row.r ι _) (by repeat (first | exact List.mem_cons_self .. | apply List.mem_cons_of_mem)) 4 _ rfl
            · exact hY (ι 27, Row.r ι _) (by repeat (first | exact List.mem_cons_self .. | apply List.mem_cons_of_mem)) 5 _ rfl
            · obtain ⟨h1, h2, h3⟩ := hW i hi
              obtain ⟨h4, h5⟩ := hB i (by omega) hi
              simp only [Nat.zero_add, Nat.mul_one, ← h1, ← h2, ← h3, ← h4, ← h5]
              refine ⟨hY.gI (n := l.length + 1) (ι := ι) ?_ (by omega), hY.gI (n := l.length + 1) (ι := ι) ?_ (by omega), hY.gI (n := l.length + 1) (ι := ι) ?_ (by omega), hY.gI (n := l.length + 1) (ι := ι) ?_ (by omega), hY.gI (n := l.length + 1) (ι := ι) ?_ (by omega)⟩
              all_goals repeat (first | exact List.mem_cons_self .. | apply List.mem_cons_of_mem)
  · cases hg

end Go.Proofs.Ytbeblgjibfoanaa.Am
