/- Rules for walking Go functions, and contracts proved by them (U10, U7, U8, U9, U11, U12a, U13, U14, V2, V3, V4, V6, V7, S1, T1, T2, T3). -/
import Derived.Test.YtnkddjdmpnghmaaZ2
import Derived.Below
import Derived.Laws.OwnMore
import Derived.KernelRfl
import Derived.Laws.Bits
import Derived.Laws.Strings
import Derived.Laws.Entries
import Derived.IntWalk
import Derived.Laws.Cells
import Derived.Laws.Append
import Derived.Laws.BytesString
import Derived.Laws.BytesArg
import Derived.Tactics
import Derived.Orders
import Derived.OrdersHeld
import Derived.Test.YtnkddjdmpnghmaaChecked
import Derived.Scope
import Derived.Laws.BitsLemmas
import Derived.Laws.Small
import Derived.Laws.Concat
import Derived.ChangeKeysEq
import Derived.ChangeArms
import Derived.DataReads
import Derived.WideShapes
import Derived.SizedLaws
import Derived.OpenShut
namespace Go.Proofs.Ytnkddjdmpnghmaa.Am
set_option linter.unusedSimpArgs false
set_option linter.unusedVariables false
set_option maxRecDepth 100000
set_option maxHeartbeats 4000000
open Go Go.RowKit
theorem foA_step {l : List Item} {k : Nat} (h : k < l.length) : foA l k = if forceB (at_ l k) = true then k else foA l (k + 1) := by
  unfold foA
  rw [show l.length - k = (l.length - (k + 1)) + 1 from by omega]
  rfl
theorem bgA_step {l : List Item} {k : Nat} (h : k < l.length) : bgA l k = if forceB (at_ l k) = true then k else if (at_ l k).kind = 1 then k else bgA l (k + 1) := by
  unfold bgA
  rw [show l.length - k = (l.length - (k + 1)) + 1 from by omega]
  rfl
theorem foA_end (l : List Item) : foA l l.length = l.length := by simp [foA, foD]
theorem bgA_end (l : List Item) : bgA l l.length = l.length := by simp [bgA, bgD]
theorem ready_C (F : Mem) (v : Value) (l : List Item) (hv : RItems F v l) (hg : goodL l = true) : C Try.prog 37 [v] F (fun u Y => ∀ G, RItems G v l → Rd G Y → RPara G u l) := by
  have hlen := good_len hg
  rcases hv.cases with ⟨b, off, c, rfl, _, hr⟩ | ⟨rfl, rfl⟩
  ·
    refine C.go hT Try.func37 Try.ntmps37 ?_
    refine sq ?_
    refine rg ?_
    refine st (h := O) ?_
    refine nl ?_
    refine sq ?_
    refine rg ?_
    iterate 3 (refine st (h := O) ?_)
    refine nl ?_
    refine sq ?_
    refine dr 19 [] [0, 1, 2, 4, 5, 7, 8, 10, 11, 13, 14, 1614100704, 16, 1017, 18] ?_
    iterate 2 (refine dt (hv := by exact O) ?_)
    refine dt (hv := by exact sdA) ?_
    refine dt (hv := by exact O) ?_
    refine dt (hv := by exact sdA) ?_
    refine dt (hv := by exact O) ?_
    refine dt (hv := by exact sdA) ?_
    refine dt (hv := by exact O) ?_
    refine dt (hv := by exact sdA) ?_
    refine dt (hv := by exact O) ?_
    refine dt (hv := by exact sdA) ?_
    refine dmksI (ty := 23) (q := (l.length : Int) + 1) (ms := [3, 6, 9, 12, 15]) (l.length + 1) (fun m => m + 10) (L0 := [(0, .slice (some ⟨b, off, none⟩) l.length c), (3, .int .i64 l.length), (10, .slice (some ⟨b, off, none⟩) l.length c)]) ?_ ?_ ?_ ?_ ?_ ⟨rfl, rfl, rfl, trivial⟩ (by omega) (by omega) (by simp)
    rotate_left
    all_goals try (intro m hm; simp only [List.mem_cons, List.not_mem_nil, or_false] at hm)
    · rcases hm with rfl | rfl | rfl | rfl | rfl <;> exact ⟨_, _, _, rfl, rfl, rfl, rfl, rfl, rfl⟩
    · rcases hm with rfl | rfl | rfl | rfl | rfl <;> exact Nat.le_of_ble_eq_true rfl
    · rcases hm with rfl | rfl | rfl | rfl | rfl <;> rfl
    · rcases hm with rfl | rfl | rfl | rfl | rfl <;> rfl
    refine dt (hv := by exact O) ?_
    refine dbx (hkp := by first | exact Kept.all | exact Kept.k0 | exact Kept.kY | exact Kept.kYY | exact Kept.kY3) ?_
    refine dt (hv := by exact O) ?_
    refine dn ?_
    iterate 2 (refine sq ?_)
    refine rg ?_
    iterate 3 (refine st (h := O) ?_)
    refine nl ?_
    refine bl ?_
    refine J.loop4 (α := Nat) (β := Nat → Int) (γ := Nat → Int) (δ := Nat → Int) (fun k W Y Z => k ≤ l.length ∧ ∀ j, j ≤ k → W j = wS l j ∧ Y j = yS l j ∧ Z j = zS l j) (fun k W Y Z => [(30, .int .i64 k)]) [(0, _), (3, _), (4, _), (28, _), (29, _)] (fun k W Y Z => [(13, rI W (l.length + 1)), (16, rI Y (l.length + 1)), (19, rI Z (l.length + 1))]) [(27, _), (22, _), (25, _)] (fun k W Y Z => l.length - k) (0) (fun _ => 0) (fun _ => 0) (fun _ => 0) (by exact ⟨rfl, trivial⟩) (by exact ⟨rfl, rfl, rfl, rfl, rfl, trivial⟩) (by exact ⟨rfl, rfl, rfl, rfl, rfl, rfl, rfl, rfl, rfl, rfl, rfl, rfl, trivial⟩) ?_ ?_
    · exact ⟨Nat.zero_le _, fun j hj => by rw [Nat.le_zero.1 hj]; exact ⟨rfl, rfl, rfl⟩⟩
    ·intro k W Y Z L1 K1 e1 e2 hI
     dsimp only [apV, apR, List.cons_append, List.nil_append] at e1 e2
     subst e1 e2
     obtain ⟨hk, hW⟩ := hI
     refine sq ?_
     refine rg ?_
     refine st (h := O) ?_
     refine nl ?_
     refine sq ?_
     refine cD (fun c0 => ?_) (fun c0 => ?_)
     ·have hkl : k < l.length := by omega
      obtain ⟨r0, r1, r2, r3, r4, r5, g, hg2, hri⟩ := hr k hkl
      have hN : rdN F [] ⟨b, off + (k : Int).toNat * 11, none⟩ 11 = some ((at_ l k).cells g) := hg2
      have hok := good_ok hg hkl
      simp only [Item.ok, decide_eq_true_eq] at hok
      have hsb := sums_bd hg k (by omega)
      have e1 : (0 + ((k : Int) + 1).toNat * 1) = k + 1 := by omega
      have e2 : (0 + (k : Int).toNat * 1) = k := by omega
      rcases hri with (⟨gb, go, gc, rfl, _, _⟩ | ⟨rfl, _⟩) | ⟨gb, go, gsp, rfl, _⟩
      all_goals
        refine sk ?_
        refine sq ?_
        refine bl ?_
        refine sq ?_
        refine rg ?_
        refine st (h := O) ?_
        refine st (h := (sdX (z := 11))) ?_
        refine st (h := sdLN) ?_
        refine al ?_
        refine st (h := O) ?_
        refine so ?_
        refine nl ?_
        refine sq ?_
        refine J.cut3 (α := Nat → Int) (β := Nat → Int) (γ := Nat → Int) (fun W' Y' Z' => (W' (0 + ((k : Int) + 1).toNat * 1) = wS l k ∧ Y' (0 + ((k : Int) + 1).toNat * 1) = yS l k ∧ Z' (0 + ((k : Int) + 1).toNat * 1) = zS l k) ∧ ∀ j, j ≤ k → W' j = wS l j ∧ Y' j = yS l j ∧ Z' j = zS l j) (fun W' Y' Z' => []) [(0, _), (3, _), (4, _), (5, _), (6, _), (28, _), (29, _), (30, _)] (fun W' Y' Z' => [(13, rI W' (l.length + 1)), (16, rI Y' (l.length + 1)), (19, rI Z' (l.length + 1))]) [(6, _), (27, _), (22, _), (25, _)] (by exact ⟨rfl, rfl, rfl, rfl, rfl, rfl, rfl, rfl, trivial⟩) (by exact ⟨rfl, rfl, rfl, rfl, rfl, rfl, rfl, rfl, trivial⟩) ?_ ?_
        ·refine dr 40 [6, 13, 16, 19, 27, 22, 25] [0, 1, 2, 3, 4, 5, 2006, 2007, 2008, 9, 2010, 2011, 2012, 2013, 2014, 15, 2016, 2017, 18, 19, 20, 21, 22, 23, 24, 2025, 2026, 2027, 28, 2029, 2030, 31, 2032, 2033, 2034, 35, 2036, 2037, 38, 39, 1040, 2041, 1042, 2043, 1044] ?_
         iterate 2 (refine dt (hv := by exact O) ?_)
         refine dt (hv := by exact sdFA) ?_
         refine dt (hv := by exact sdL) ?_
         refine dt (hv := by exact O) ?_
         refine dt (hv := by exact sdA) ?_
         iterate 2 (refine dq (hv := by exact fun _ _ => O) ?_)
         refine dq (hv := by exact fun _ _ => sdFA) ?_
         refine dt (hv := by exact sdL) ?_
         refine dq (hv := by exact fun _ _ => O) ?_
         refine dq (hv := by exact fun _ _ => sdA) ?_
         iterate 2 (refine dq (hv := by exact fun _ _ => O) ?_)
         refine dq (hv := by exact fun _ _ => sdFA) ?_
         refine dt (hv := by exact sdL) ?_
         refine dq (hv := by exact fun _ _ => O) ?_
         refine dq (hv := by exact fun _ _ => sdA) ?_
         iterate 2 (refine dt (hv := by exact O) ?_)
         refine dt (hv := by exact sdFA) ?_
         refine dt (hv := by exact sdL) ?_
         refine dt (hv := by exact O) ?_
         refine dt (hv := by exact (sdX (z := 1))) ?_
         refine dt (hv := by exact (by first | exact sdLG | exact sdW)) ?_
         iterate 2 (refine dq (hv := by exact fun _ _ => O) ?_)
         refine dq (hv := by exact fun _ _ => sdFA) ?_
         refine dt (hv := by exact sdL) ?_
         refine dq (hv := by exact fun _ _ => O) ?_
         refine dq (hv := by exact fun _ _ => (sdX (z := 1))) ?_
         refine dt (hv := by exact (by first | exact sdLG | exact sdW)) ?_
         iterate 2 (refine dq (hv := by exact fun _ _ => O) ?_)
         refine dq (hv := by exact fun _ _ => sdFA) ?_
         refine dt (hv := by exact sdL) ?_
         refine dq (hv := by exact fun _ _ => O) ?_
         refine dq (hv := by exact fun _ _ => (sdX (z := 1))) ?_
         refine dt (hv := by exact (by first | exact sdLG | exact sdW)) ?_
         refine dt (hv := by exact (sdX (z := 1))) ?_
         first | refine dsoG ?_ | refine dso (hkp := by first | exact Kept.all | exact Kept.k0 | exact Kept.kY | exact Kept.kYY | exact Kept.kY3) ?_
         refine dq (hv := by exact fun _ _ => (sdX (z := 1))) ?_
         first | refine dsoG ?_ | refine dso (hkp := by first | exact Kept.all | exact Kept.k0 | exact Kept.kY | exact Kept.kYY | exact Kept.kY3) ?_
         refine dq (hv := by exact fun _ _ => (sdX (z := 1))) ?_
         first | refine dsoG ?_ | refine dso (hkp := by first | exact Kept.all | exact Kept.k0 | exact Kept.kY | exact Kept.kYY | exact Kept.kY3) ?_
         refine dn ?_
         refine ck3 (_) (_) (_) (by exact trivial) (by exact ⟨rfl, rfl, rfl, rfl, rfl, rfl, rfl, rfl, trivial⟩) (by exact ⟨rfl, rfl, rfl, rfl, rfl, rfl, rfl, rfl, rfl, rfl, rfl, rfl, rfl, rfl, trivial⟩) ?_
         obtain ⟨hW1, hW2, hW3⟩ := hW k (Nat.le_refl _)
         rw [e1, e2]
         refine ⟨⟨by simp [setI, hW1], by simp [setI, hW2], by simp [setI, hW3]⟩, fun j hj => ?_⟩
         have : j ≠ k + 1 := by omega
         simp [setI, this, hW j hj]
        ·intro W' Y' Z' L1 K1 e1 e2 hI
         dsimp only [List.cons_append, List.nil_append] at e1 e2
         subst e1 e2
         obtain ⟨⟨n1, n2, n3⟩, ho⟩ := hI
         iterate 2 (refine sq ?_)
         refine rg ?_
         refine st (h := sdFA) ?_
         refine st (h := sdL) ?_
         refine st (h := O) ?_
         refine nl ?_
         refine cN (fun c1 => ?_) (fun c1 => ?_)
         ·refine dr 12 [13, 16, 19, 6, 27, 22, 25] [0, 1, 2, 3, 4, 5, 6, 7, 8, 9, 10, 11, 1012] ?_
          iterate 2 (refine dt (hv := by exact O) ?_)
          refine dt (hv := by exact sdFA) ?_
          refine dt (hv := by exact sdL) ?_
          refine dt (hv := by exact O) ?_
          refine dt (hv := by exact sdA) ?_
          refine dt (hv := by exact (sdX (z := 1))) ?_
          refine dt (hv := by exact (by first | exact sdLG | exact sdW)) ?_
          refine dt (hv := by exact sdFA) ?_
          refine dt (hv := by exact sdL) ?_
          refine dt (hv := by exact sdA) ?_
          refine dt (hv := by exact (sdX (z := 1))) ?_
          first | refine dsoG ?_ | refine dso (hkp := by first | exact Kept.all | exact Kept.k0 | exact Kept.kY | exact Kept.kYY | exact Kept.kY3) ?_
          refine dn ?_
          refine sq ?_
          refine rg ?_
          refine st (h := sdFA) ?_
          refine st (h := sdL) ?_
          refine st (h := O) ?_
          refine nl ?_
          refine cD (fun c2 => ?_) (fun c2 => ?_)
          ·refine sq ?_
           refine dr 12 [13, 16, 19, 6, 27, 22, 25] [0, 1, 2, 3, 4, 5, 6, 7, 8, 9, 10, 11, 1012] ?_
           iterate 2 (refine dt (hv := by exact O) ?_)
           refine dt (hv := by exact sdFA) ?_
           refine dt (hv := by exact sdL) ?_
           refine dt (hv := by exact O) ?_
           refine dt (hv := by exact sdA) ?_
           refine dt (hv := by exact (sdX (z := 1))) ?_
           refine dt (hv := by exact (by first | exact sdLG | exact sdW)) ?_
           refine dt (hv := by exact sdFA) ?_
           refine dt (hv := by exact sdL) ?_
           refine dt (hv := by exact sdA) ?_
           refine dt (hv := by exact (sdX (z := 1))) ?_
           first | refine dsoG ?_ | refine dso (hkp := by first | exact Kept.all | exact Kept.k0 | exact Kept.kY | exact Kept.kYY | exact Kept.kY3) ?_
           refine dn ?_
           refine dr 12 [13, 16, 19, 6, 27, 22, 25] [0, 1, 2, 3, 4, 5, 6, 7, 8, 9, 10, 11, 1012] ?_
           iterate 2 (refine dt (hv := by exact O) ?_)
           refine dt (hv := by exact sdFA) ?_
           refine dt (hv := by exact sdL) ?_
           refine dt (hv := by exact O) ?_
           refine dt (hv := by exact sdA) ?_
           refine dt (hv := by exact (sdX (z := 1))) ?_
           refine dt (hv := by exact (by first | exact sdLG | exact sdW)) ?_
           refine dt (hv := by exact sdFA) ?_
           refine dt (hv := by exact sdL) ?_
           refine dt (hv := by exact sdA) ?_
           refine dt (hv := by exact (sdX (z := 1))) ?_
           first | refine dsoG ?_ | refine dso (hkp := by first | exact Kept.all | exact Kept.k0 | exact Kept.kY | exact Kept.kYY | exact Kept.kY3) ?_
           refine dn ?_
           refine bk ?_
           refine rg ?_
           refine st (h := sdA) ?_
           refine st (h := O) ?_
           refine nl ?_
           refine bk4 (k + 1) (_) (_) (_) (by exact ⟨rfl, trivial⟩) (by exact ⟨rfl, rfl, rfl, rfl, rfl, trivial⟩) (by exact ⟨rfl, rfl, rfl, rfl, rfl, rfl, rfl, rfl, rfl, rfl, rfl, rfl, trivial⟩) ?_ ?_
           · omega
           · refine ⟨by omega, fun j hj => ?_⟩
             simp only [e1] at *
             rcases Nat.lt_or_ge k j with h | h
             · obtain rfl : j = k + 1 := by omega
               first | (exfalso; omega) | simp [setI, wS, yS, zS, *]
             · have : j ≠ k + 1 := by omega
               simp [setI, this, ho j h]
          ·refine sk ?_
           refine bk ?_
           refine rg ?_
           refine st (h := sdA) ?_
           refine st (h := O) ?_
           refine nl ?_
           refine bk4 (k + 1) (_) (_) (_) (by exact ⟨rfl, trivial⟩) (by exact ⟨rfl, rfl, rfl, rfl, rfl, trivial⟩) (by exact ⟨rfl, rfl, rfl, rfl, rfl, rfl, rfl, rfl, rfl, rfl, rfl, rfl, trivial⟩) ?_ ?_
           · omega
           · refine ⟨by omega, fun j hj => ?_⟩
             simp only [e1] at *
             rcases Nat.lt_or_ge k j with h | h
             · obtain rfl : j = k + 1 := by omega
               first | (exfalso; omega) | simp [setI, wS, yS, zS, *]
             · have : j ≠ k + 1 := by omega
               simp [setI, this, ho j h]
         ·refine sk ?_
          refine sq ?_
          refine rg ?_
          refine st (h := sdFA) ?_
          refine st (h := sdL) ?_
          refine st (h := O) ?_
          refine nl ?_
          refine cD (fun c2 => ?_) (fun c2 => ?_)
          ·refine sq ?_
           refine dr 12 [13, 16, 19, 6, 27, 22, 25] [0, 1, 2, 3, 4, 5, 6, 7, 8, 9, 10, 11, 1012] ?_
           iterate 2 (refine dt (hv := by exact O) ?_)
           refine dt (hv := by exact sdFA) ?_
           refine dt (hv := by exact sdL) ?_
           refine dt (hv := by exact O) ?_
           refine dt (hv := by exact sdA) ?_
           refine dt (hv := by exact (sdX (z := 1))) ?_
           refine dt (hv := by exact (by first | exact sdLG | exact sdW)) ?_
           refine dt (hv := by exact sdFA) ?_
           refine dt (hv := by exact sdL) ?_
           refine dt (hv := by exact sdA) ?_
           refine dt (hv := by exact (sdX (z := 1))) ?_
           first | refine dsoG ?_ | refine dso (hkp := by first | exact Kept.all | exact Kept.k0 | exact Kept.kY | exact Kept.kYY | exact Kept.kY3) ?_
           refine dn ?_
           refine dr 12 [13, 16, 19, 6, 27, 22, 25] [0, 1, 2, 3, 4, 5, 6, 7, 8, 9, 10, 11, 1012] ?_
           iterate 2 (refine dt (hv := by exact O) ?_)
           refine dt (hv := by exact sdFA) ?_
           refine dt (hv := by exact sdL) ?_
           refine dt (hv := by exact O) ?_
           refine dt (hv := by exact sdA) ?_
           refine dt (hv := by exact (sdX (z := 1))) ?_
           refine dt (hv := by exact (by first | exact sdLG | exact sdW)) ?_
           refine dt (hv := by exact sdFA) ?_
           refine dt (hv := by exact sdL) ?_
           refine dt (hv := by exact sdA) ?_
           refine dt (hv := by exact (sdX (z := 1))) ?_
           first | refine dsoG ?_ | refine dso (hkp := by first | exact Kept.all | exact Kept.k0 | exact Kept.kY | exact Kept.kYY | exact Kept.kY3) ?_
           refine dn ?_
           refine bk ?_
           refine rg ?_
           refine st (h := sdA) ?_
           refine st (h := O) ?_
           refine nl ?_
           refine bk4 (k + 1) (_) (_) (_) (by exact ⟨rfl, trivial⟩) (by exact ⟨rfl, rfl, rfl, rfl, rfl, trivial⟩) (by exact ⟨rfl, rfl, rfl, rfl, rfl, rfl, rfl, rfl, rfl, rfl, rfl, rfl, trivial⟩) ?_ ?_
           · omega
           · refine ⟨by omega, fun j hj => ?_⟩
             simp only [e1] at *
             rcases Nat.lt_or_ge k j with h | h
             · obtain rfl : j = k + 1 := by omega
               first | (exfalso; omega) | simp [setI, wS, yS, zS, *]
             · have : j ≠ k + 1 := by omega
               simp [setI, this, ho j h]
          ·refine sk ?_
           refine bk ?_
           refine rg ?_
           refine st (h := sdA) ?_
           refine st (h := O) ?_
           refine nl ?_
           refine bk4 (k + 1) (_) (_) (_) (by exact ⟨rfl, trivial⟩) (by exact ⟨rfl, rfl, rfl, rfl, rfl, trivial⟩) (by exact ⟨rfl, rfl, rfl, rfl, rfl, rfl, rfl, rfl, rfl, rfl, rfl, rfl, trivial⟩) ?_ ?_
           · omega
           · refine ⟨by omega, fun j hj => ?_⟩
             simp only [e1] at *
             rcases Nat.lt_or_ge k j with h | h
             · obtain rfl : j = k + 1 := by omega
               first | (exfalso; omega) | simp [setI, wS, yS, zS, *]
             · have : j ≠ k + 1 := by omega
               simp [setI, this, ho j h]
     ·obtain rfl : k = l.length := by omega
      refine ex ?_
      refine sq ?_
      refine dr 13 [13, 16, 19, 27, 22, 25] [0, 1, 2, 3, 4, 2005, 2006, 2007, 8, 2009, 10, 2011, 12, 1013, 2014, 1015] ?_
      iterate 2 (refine dt (hv := by exact O) ?_)
      refine dt (hv := by exact sdFA) ?_
      refine dt (hv := by exact sdL) ?_
      refine dt (hv := by exact O) ?_
      iterate 2 (refine dq (hv := by exact fun _ _ => O) ?_)
      refine dq (hv := by exact fun _ _ => sdFA) ?_
      refine dt (hv := by exact sdL) ?_
      refine dq (hv := by exact fun _ _ => O) ?_
      refine dt (hv := by exact O) ?_
      refine dq (hv := by exact fun _ _ => O) ?_
      refine dt (hv := by exact (sdX (z := 1))) ?_
      first | refine dsoG ?_ | refine dso (hkp := by first | exact Kept.all | exact Kept.k0 | exact Kept.kY | exact Kept.kYY | exact Kept.kY3) ?_
      refine dq (hv := by exact fun _ _ => (sdX (z := 1))) ?_
      first | refine dsoG ?_ | refine dso (hkp := by first | exact Kept.all | exact Kept.k0 | exact Kept.kY | exact Kept.kYY | exact Kept.kY3) ?_
      refine dn ?_
      iterate 2 (refine sq ?_)
      refine rg ?_
      refine st (h := O) ?_
      refine st (h := sdS) ?_
      refine st (h := O) ?_
      refine nl ?_
      refine bl ?_
      refine J.loop3 (α := Int) (β := Nat → Int) (γ := Nat → Int) (fun i B Fo => -1 ≤ i ∧ i < l.length ∧ ∀ j : Nat, i < j → j ≤ l.length → B j = bgA l j ∧ Fo j = foA l j) (fun i B Fo => [(7, .int .i64 i)]) [(0, _), (4, _)] (fun i B Fo => [(22, rI B (l.length + 1)), (25, rI Fo (l.length + 1))]) [(13, _), (16, _), (19, _), (27, _)] (fun i B Fo => (i + 1).toNat) (_) (_) (_) (by exact ⟨rfl, trivial⟩) (by exact ⟨rfl, rfl, trivial⟩) (by exact ⟨rfl, rfl, rfl, rfl, rfl, rfl, rfl, rfl, rfl, rfl, rfl, rfl, trivial⟩) ?_ ?_
      · refine ⟨by omega, by omega, fun j hj hj2 => ?_⟩
        obtain rfl : j = l.length := by omega
        simp [setI, foA_end, bgA_end]
      ·intro i B Fo L1 K1 e1 e2 hI
       dsimp only [apV, apR, List.cons_append, List.nil_append] at e1 e2
       subst e1 e2
       obtain ⟨hi0, hil, hB⟩ := hI
       iterate 2 (refine sq ?_)
       refine rg ?_
       iterate 2 (refine st (h := O) ?_)
       refine nl ?_
       refine cD (fun c3 => ?_) (fun c3 => ?_)
       ·obtain ⟨k, rfl⟩ := Int.eq_ofNat_of_zero_le (show (0 : Int) ≤ i by omega)
        have hkl : k < l.length := by omega
        have e1 : (0 + ((k : Int) + 1).toNat * 1) = k + 1 := by omega
        have e2 : (0 + (k : Int).toNat * 1) = k := by omega
        obtain ⟨r0, r1, r2, r3, r4, r5, g, hg2, hri⟩ := hr k hkl
        have hN : rdN F [] ⟨b, off + (k : Int).toNat * 11, none⟩ 11 = some ((at_ l k).cells g) := hg2
        have hsv := hri.sl
        rcases hri with (⟨gb, go, gc, rfl, _, _⟩ | ⟨rfl, _⟩) | ⟨gb, go, gsp, rfl, _⟩
        all_goals
          refine sk ?_
          refine sq ?_
          refine bl ?_
          refine sq ?_
          refine J.cut2 (α := Nat → Int) (β := Nat → Int) (fun B' Fo' => (B' (0 + (k : Int).toNat * 1) = k ∧ Fo' (0 + (k : Int).toNat * 1) = foA l (k + 1)) ∧ ∀ j : Nat, k < j → j ≤ l.length → B' j = bgA l j ∧ Fo' j = foA l j) (fun B' Fo' => []) [(0, _), (4, _), (7, _)] (fun B' Fo' => [(22, rI B' (l.length + 1)), (25, rI Fo' (l.length + 1))]) [(13, _), (16, _), (19, _), (27, _)] (by exact ⟨rfl, rfl, rfl, trivial⟩) (by exact ⟨rfl, rfl, rfl, rfl, rfl, rfl, rfl, rfl, trivial⟩) ?_ ?_
          ·refine dr 20 [22, 25, 13, 16, 19, 27] [0, 1, 2, 3, 4, 2005, 2006, 2007, 8, 2009, 10, 2011, 2012, 2013, 14, 2015, 2016, 2017, 18, 19, 1020, 2021, 1022] ?_
           iterate 2 (refine dt (hv := by exact O) ?_)
           refine dt (hv := by exact sdFA) ?_
           refine dt (hv := by exact sdL) ?_
           refine dt (hv := by exact O) ?_
           iterate 2 (refine dq (hv := by exact fun _ _ => O) ?_)
           refine dq (hv := by exact fun _ _ => sdFA) ?_
           refine dt (hv := by exact sdL) ?_
           refine dq (hv := by exact fun _ _ => O) ?_
           refine dt (hv := by exact O) ?_
           iterate 2 (refine dq (hv := by exact fun _ _ => O) ?_)
           refine dq (hv := by exact fun _ _ => sdFA) ?_
           refine dt (hv := by exact sdL) ?_
           refine dq (hv := by exact fun _ _ => O) ?_
           refine dq (hv := by exact fun _ _ => sdA) ?_
           refine dq (hv := by exact fun _ _ => (sdX (z := 1))) ?_
           refine dt (hv := by exact (by first | exact sdLG | exact sdW)) ?_
           refine dt (hv := by exact (sdX (z := 1))) ?_
           first | refine dsoG ?_ | refine dso (hkp := by first | exact Kept.all | exact Kept.k0 | exact Kept.kY | exact Kept.kYY | exact Kept.kY3) ?_
           refine dq (hv := by exact fun _ _ => (sdX (z := 1))) ?_
           first | refine dsoG ?_ | refine dso (hkp := by first | exact Kept.all | exact Kept.k0 | exact Kept.kY | exact Kept.kYY | exact Kept.kY3) ?_
           refine dn ?_
           refine ck2 (_) (_) (by exact trivial) (by exact ⟨rfl, rfl, rfl, trivial⟩) (by exact ⟨rfl, rfl, rfl, rfl, rfl, rfl, rfl, rfl, rfl, rfl, rfl, rfl, trivial⟩) ?_
           obtain ⟨hW1, hW2⟩ := hB (k + 1) (by omega) (by omega)
           rw [e1, e2]
           refine ⟨⟨by simp [setI], by simp [setI, hW2]⟩, fun j hj hj2 => ?_⟩
           have : j ≠ k := by omega
           simp [setI, this, hB j (by omega) hj2]
          ·intro B' Fo' L1 K1 e1 e2 hI
           dsimp only [List.cons_append, List.nil_append] at e1 e2
           subst e1 e2
           obtain ⟨⟨n1, n2⟩, ho⟩ := hI
           refine sq ?_
           refine rg ?_
           iterate 2 (refine st (h := O) ?_)
           refine st (h := (sdX (z := 11))) ?_
           refine st (h := sdLN) ?_
           refine cl (h := by exact fun ι hV hl => force_C _ (at_ l k) _ hsv) ?_
           refine nl ?_
           refine cB (fun c4 => ?_) (fun c4 => ?_)
           ·refine rg ?_
            iterate 2 (refine st (h := O) ?_)
            refine st (h := sdFA) ?_
            refine st (h := sdL) ?_
            iterate 2 (refine st (h := O) ?_)
            refine st (h := (sdX (z := 1))) ?_
            first | refine soG ?_ | refine so ?_
            refine nl ?_
            refine bk ?_
            refine rg ?_
            refine st (h := O) ?_
            refine st (h := sdS) ?_
            refine st (h := O) ?_
            refine nl ?_
            refine bk3 (_) (_) (_) (by exact ⟨rfl, trivial⟩) (by exact ⟨rfl, rfl, trivial⟩) (by exact ⟨rfl, rfl, rfl, rfl, rfl, rfl, rfl, rfl, rfl, rfl, rfl, rfl, trivial⟩) ?_ ?_
            · omega
            · refine ⟨by omega, by omega, fun j hj hj2 => ?_⟩
              simp only [e1, e2] at *
              rcases Nat.lt_or_ge k j with h | h
              · have : j ≠ k := by omega
                simp [setI, this, ho j h hj2]
              · obtain rfl : j = k := by omega
                have h9 := ho (j + 1) (by omega) (by omega)
                simp [setI, foA_step hkl, bgA_step hkl, *]
           ·refine sq ?_
            refine rg ?_
            iterate 2 (refine st (h := O) ?_)
            refine st (h := (sdX (z := 11))) ?_
            refine st (h := sdFA) ?_
            refine st (h := (by first | exact sdLG | exact sdW)) ?_
            refine st (h := O) ?_
            refine nl ?_
            refine cN (fun c5 => ?_) (fun c5 => ?_)
            ·refine dr 14 [22, 25, 13, 16, 19, 27] [0, 1, 2, 3, 4, 5, 6, 7, 8, 9, 10, 11, 12, 13, 1014] ?_
             iterate 2 (refine dt (hv := by exact O) ?_)
             refine dt (hv := by exact sdFA) ?_
             refine dt (hv := by exact sdL) ?_
             iterate 3 (refine dt (hv := by exact O) ?_)
             refine dt (hv := by exact sdFA) ?_
             refine dt (hv := by exact sdL) ?_
             refine dt (hv := by exact O) ?_
             refine dt (hv := by exact sdA) ?_
             refine dt (hv := by exact (sdX (z := 1))) ?_
             refine dt (hv := by exact (by first | exact sdLG | exact sdW)) ?_
             refine dt (hv := by exact (sdX (z := 1))) ?_
             first | refine dsoG ?_ | refine dso (hkp := by first | exact Kept.all | exact Kept.k0 | exact Kept.kY | exact Kept.kYY | exact Kept.kY3) ?_
             refine dn ?_
             refine bk ?_
             refine rg ?_
             refine st (h := O) ?_
             refine st (h := sdS) ?_
             refine st (h := O) ?_
             refine nl ?_
             refine bk3 (_) (_) (_) (by exact ⟨rfl, trivial⟩) (by exact ⟨rfl, rfl, trivial⟩) (by exact ⟨rfl, rfl, rfl, rfl, rfl, rfl, rfl, rfl, rfl, rfl, rfl, rfl, trivial⟩) ?_ ?_
             · omega
             · refine ⟨by omega, by omega, fun j hj hj2 => ?_⟩
               simp only [e1, e2] at *
               rcases Nat.lt_or_ge k j with h | h
               · have : j ≠ k := by omega
                 simp [setI, this, ho j h hj2]
               · obtain rfl : j = k := by omega
                 have h9 := ho (j + 1) (by omega) (by omega)
                 simp [setI, foA_step hkl, bgA_step hkl, *]
            ·refine sk ?_
             refine bk ?_
             refine rg ?_
             refine st (h := O) ?_
             refine st (h := sdS) ?_
             refine st (h := O) ?_
             refine nl ?_
             refine bk3 (_) (_) (_) (by exact ⟨rfl, trivial⟩) (by exact ⟨rfl, rfl, trivial⟩) (by exact ⟨rfl, rfl, rfl, rfl, rfl, rfl, rfl, rfl, rfl, rfl, rfl, rfl, trivial⟩) ?_ ?_
             · omega
             · refine ⟨by omega, by omega, fun j hj hj2 => ?_⟩
               simp only [e1, e2] at *
               rcases Nat.lt_or_ge k j with h | h
               · have : j ≠ k := by omega
                 simp [setI, this, ho j h hj2]
               · obtain rfl : j = k := by omega
                 have h9 := ho (j + 1) (by omega) (by omega)
                 simp [setI, foA_step hkl, bgA_step hkl, *]
       ·obtain rfl : i = -1 := by omega
        refine ex ?_
        refine sq ?_
        refine rg ?_
        iterate 2 (refine st (h := O) ?_)
        refine nl ?_
        refine rtX fun ι hV G hG hY => ?_
        refine ⟨ι 27, 0, b, off, c, ι 13, 0, l.length + 1, ι 16, 0, l.length + 1, ι 19, 0, l.length + 1, ι 22, 0, l.length + 1, ι 25, 0, l.length + 1, rfl, ⟨?_, ?_, ?_, ?_, ?_, ?_⟩, hG, fun i hi => ?_⟩
        · exact hY (ι 27, Row.r ι _) (by repeat (first | exact List.mem_cons_self .. | apply List.mem_cons_of_mem)) 0 _ rfl
        · exact hY (ι 27, Row.r ι _) (by repeat (first | exact List.mem_cons_self .. | apply List.mem_cons_of_mem)) 1 _ rfl
        · exact hY (ι 27, Row.r ι _) (by repeat (first | exact List.mem_cons_self .. | apply List.mem_cons_of_mem)) 2 _ rfl
        · exact hY (ι 27, Row.r ι _) (by repeat (first | exact List.mem_cons_self .. | apply List.mem_cons_of_mem)) 3 _ rfl
        · exact hY (ι 27, Row.r ι _) (by repeat (first | exact List.mem_cons_self .. | apply List.mem_cons_of_mem)) 4 _ rfl
        · exact hY (ι 27, Row.r ι _) (by repeat (first | exact List.mem_cons_self .. | apply List.mem_cons_of_mem)) 5 _ rfl
        · obtain ⟨h1, h2, h3⟩ := hW i hi
          obtain ⟨h4, h5⟩ := hB i (by omega) hi
          simp only [Nat.zero_add, Nat.mul_one, ← h1, ← h2, ← h3, ← h4, ← h5]
          refine ⟨hY.gI (n := l.length + 1) (ι := ι) ?_ (by omega), hY.gI (n := l.length + 1) (ι := ι) ?_ (by omega), hY.gI (n := l.length + 1) (ι := ι) ?_ (by omega), hY.gI (n := l.length + 1) (ι := ι) ?_ (by omega), hY.gI (n := l.length + 1) (ι := ι) ?_ (by omega)⟩
          all_goals repeat (first | exact List.mem_cons_self .. | apply List.mem_cons_of_mem)
  · cases hg
end Go.Proofs.Ytnkddjdmpnghmaa.Am
namespace Go.Proofs.Ytnkddjdmpnghmaa.Am
set_option linter.unusedSimpArgs false
set_option linter.unusedVariables false
set_option maxRecDepth 100000
set_option maxHeartbeats 4000000
open Go Go.RowKit
end Go.Proofs.Ytnkddjdmpnghmaa.Am
namespace Go.Proofs.Ytnkddjdmpnghmaa.Am
set_option linter.unusedSimpArgs false
set_option linter.unusedVariables false
set_option maxRecDepth 100000
set_option maxHeartbeats 4000000
open Go Go.RowKit
/-- a pointer to what begins with items -/
def RHead (F : Mem) (p : Value) (l : List Item) : Prop := ∃ pb po v, p = .pointer (some ⟨pb, po, none⟩) ∧ look F ⟨pb, po + 0, none⟩ = some v ∧ RItems F v l
theorem RHead.le {F F' : Mem} {p : Value} {l : List Item} (h : RHead F p l) (hl : F.le F') : RHead F' p l := by
  obtain ⟨pb, po, v, h1, h2, h3⟩ := h
  exact ⟨pb, po, v, h1, hl _ _ h2, h3.le hl⟩
theorem legal_C (F : Mem) (p : Value) (l : List Item) (i : Int) (hp : RHead F p l) : C0 Try.prog 47 [p, .int .i64 i] F (.bool (legalB l i)) := by
  obtain ⟨pb, po, v, rfl, h1, hv⟩ := hp
  by_cases hi : 0 ≤ i ∧ i < l.length
  · obtain ⟨k, rfl⟩ := Int.eq_ofNat_of_zero_le hi.1
    have hkl : k < l.length := by omega
    rcases hv.cases with ⟨b, off, c, rfl, hlen, hr⟩ | ⟨rfl, rfl⟩
    · obtain ⟨r0, r1, r2, r3, r4, r5, g, hg, hri⟩ := hr k hkl
      have p0 : 0 < k → look F ⟨b, off + ((k : Int) - 1).toNat * 11 + 0, none⟩ = some (.int .i64 (at_ l ((k : Int) - 1).toNat).kind) := fun h => (hr _ (by omega)).1
      have hL : legalB l (k : Int) = ((decide ((at_ l k).kind = 2) && decide ((0 : Int) < (k : Int)) && decide ((at_ l ((k : Int) - 1).toNat).kind = 1)) || (decide ((at_ l k).kind = 3) && decide ((at_ l k).cost < 10000))) := by simp [legalB, hkl]
      rw [hL]
      clear hr hv hL
      have hN : rdN F [] ⟨b, off + k * 11, none⟩ 11 = some ((at_ l k).cells g) := hg
      generalize at_ l k = x at *
      generalize at_ l ((k : Int) - 1).toNat = y at *
      rcases hri with (⟨gb, go, gc, rfl, _, _⟩ | ⟨rfl, _⟩) | ⟨gb, go, gsp, rfl, _⟩
      all_goals refine C.go hT Try.func47 Try.ntmps47 ?_
      all_goals
        by_cases hk0 : 0 < k
        · have p := p0 hk0
          (repeat' (first | refine st ?_ | refine nl ?_ | refine sq ?_ | refine rg ?_ | refine bl ?_ | refine sk ?_ | refine bk ?_ | refine bx ?_ | refine al ?_ | refine so ?_ | refine mk ?_ | refine ex ?_ | refine lb ?_ | refine cT ?_ | refine cF ?_ | refine sg ?_ | refine sp ?_ | refine su ?_ | refine gD (fun _ => ?_) (fun _ => ?_) | refine gN (fun _ => ?_) (fun _ => ?_) | refine cD (fun _ => ?_) (fun _ => ?_) | refine cN (fun _ => ?_) (fun _ => ?_)))
          all_goals first
            | (exfalso; omega)
            | (refine rt ⟨?_, rfl⟩; simp [*])
        · (repeat' (first | refine st ?_ | refine nl ?_ | refine sq ?_ | refine rg ?_ | refine bl ?_ | refine sk ?_ | refine bk ?_ | refine bx ?_ | refine al ?_ | refine so ?_ | refine mk ?_ | refine ex ?_ | refine lb ?_ | refine cT ?_ | refine cF ?_ | refine sg ?_ | refine sp ?_ | refine su ?_ | refine gD (fun _ => ?_) (fun _ => ?_) | refine gN (fun _ => ?_) (fun _ => ?_) | refine cD (fun _ => ?_) (fun _ => ?_) | refine cN (fun _ => ?_) (fun _ => ?_)))
          all_goals first
            | (exfalso; omega)
            | (refine rt ⟨?_, rfl⟩; simp [*])
    · simp at hkl
  · have h0 : legalB l i = false := by simp only [legalB, hi, decide_false, Bool.false_and]
    rw [h0]
    rcases hv.cases with ⟨b, off, c, rfl, hlen, hr⟩ | ⟨rfl, rfl⟩
    all_goals
      refine C.go hT Try.func47 Try.ntmps47 ?_
      (repeat (first | refine st ?_ | refine nl ?_ | refine sq ?_ | refine rg ?_ | refine bl ?_ | refine sk ?_ | refine bk ?_ | refine bx ?_ | refine al ?_ | refine so ?_ | refine mk ?_ | refine ex ?_ | refine lb ?_ | refine cT ?_ | refine cF ?_ | refine sg ?_ | refine sp ?_ | refine su ?_))
      refine gD (fun h0 => ?_) (fun h0 => ?_)
      · (repeat (first | refine st ?_ | refine nl ?_ | refine sq ?_ | refine rg ?_ | refine bl ?_ | refine sk ?_ | refine bk ?_ | refine bx ?_ | refine al ?_ | refine so ?_ | refine mk ?_ | refine ex ?_ | refine lb ?_ | refine cT ?_ | refine cF ?_ | refine sg ?_ | refine sp ?_ | refine su ?_))
        exact rt ⟨rfl, rfl⟩
      · (repeat (first | refine st ?_ | refine nl ?_ | refine sq ?_ | refine rg ?_ | refine bl ?_ | refine sk ?_ | refine bk ?_ | refine bx ?_ | refine al ?_ | refine so ?_ | refine mk ?_ | refine ex ?_ | refine lb ?_ | refine cT ?_ | refine cF ?_ | refine sg ?_ | refine sp ?_ | refine su ?_))
        refine cD (fun h1 => ?_) (fun h1 => ?_)
        · (repeat (first | refine st ?_ | refine nl ?_ | refine sq ?_ | refine rg ?_ | refine bl ?_ | refine sk ?_ | refine bk ?_ | refine bx ?_ | refine al ?_ | refine so ?_ | refine mk ?_ | refine ex ?_ | refine lb ?_ | refine cT ?_ | refine cF ?_ | refine sg ?_ | refine sp ?_ | refine su ?_))
          exact rt ⟨rfl, rfl⟩
        · first | (exfalso; omega) | (exfalso; simp at h1 h0 hi; omega)
end Go.Proofs.Ytnkddjdmpnghmaa.Am
namespace Go.Proofs.Ytnkddjdmpnghmaa.Am
set_option linter.unusedSimpArgs false
set_option linter.unusedVariables false
set_option maxRecDepth 100000
set_option maxHeartbeats 4000000
open Go Go.RowKit
theorem RItems.forms {F : Mem} {v : Value} {l : List Item} (h : RItems F v l) : (∃ b off c, v = .slice (some ⟨b, off, none⟩) l.length c) ∨ (v = .slice none 0 0 ∧ l = []) := by
  rcases h with ⟨b, off, c, h1, _⟩ | h
  · exact .inl ⟨b, off, c, h1⟩
  · exact .inr h
theorem Legal_C (F : Mem) (v : Value) (l : List Item) (i : Int) (hv : RItems F v l) : C0 Try.prog 28 [v, .int .i64 i] F (.bool (goodL l && legalB l i)) := by
  rcases hv.forms with ⟨b, off, c, rfl⟩ | ⟨rfl, rfl⟩
  · refine C.go hT Try.func28 Try.ntmps28 ?_
    (repeat (first | refine st ?_ | refine nl ?_ | refine sq ?_ | refine rg ?_ | refine bl ?_ | refine sk ?_ | refine bk ?_ | refine bx ?_ | refine al ?_ | refine so ?_ | refine mk ?_ | refine ex ?_ | refine lb ?_ | refine cT ?_ | refine cF ?_ | refine sg ?_ | refine sp ?_ | refine su ?_ | refine cl ?_ (h := by exact fun _ _ hl => IGood_C _ _ l (hv.le hl))))
    refine gB (fun h0 => ?_) (fun h0 => ?_)
    · (repeat (first | refine st ?_ | refine nl ?_ | refine sq ?_ | refine rg ?_ | refine bl ?_ | refine sk ?_ | refine bk ?_ | refine bx ?_ | refine al ?_ | refine so ?_ | refine mk ?_ | refine ex ?_ | refine lb ?_ | refine cT ?_ | refine cF ?_ | refine sg ?_ | refine sp ?_ | refine su ?_))
      refine JL.stepG rfl rfl rfl (Go1.box (t := 10) rfl rfl (by exact Nat.le_of_ble_eq_true rfl) rfl rfl rfl rfl rfl ?_)
      (repeat (first | refine st ?_ | refine nl ?_ | refine sq ?_ | refine rg ?_ | refine bl ?_ | refine sk ?_ | refine bk ?_ | refine bx ?_ | refine al ?_ | refine so ?_ | refine mk ?_ | refine ex ?_ | refine lb ?_ | refine cT ?_ | refine cF ?_ | refine sg ?_ | refine sp ?_ | refine su ?_))
      refine clg ?_ (h := by
        intro ι hV hl
        have hk := hV.look (t := 10) rfl (o := 0) (v := .slice (some ⟨b, off, none⟩) l.length c) rfl
        exact legal_C _ (.pointer (some ⟨ι 10, 0, none⟩)) l i ⟨_, 0, _, rfl, hk, hv.le hl⟩)
      (repeat (first | refine st ?_ | refine nl ?_ | refine sq ?_ | refine rg ?_ | refine bl ?_ | refine sk ?_ | refine bk ?_ | refine bx ?_ | refine al ?_ | refine so ?_ | refine mk ?_ | refine ex ?_ | refine lb ?_ | refine cT ?_ | refine cF ?_ | refine sg ?_ | refine sp ?_ | refine su ?_))
      refine rt ⟨?_, rfl⟩
      simp [h0]
    · (repeat (first | refine st ?_ | refine nl ?_ | refine sq ?_ | refine rg ?_ | refine bl ?_ | refine sk ?_ | refine bk ?_ | refine bx ?_ | refine al ?_ | refine so ?_ | refine mk ?_ | refine ex ?_ | refine lb ?_ | refine cT ?_ | refine cF ?_ | refine sg ?_ | refine sp ?_ | refine su ?_))
      refine rt ⟨?_, rfl⟩
      simp [h0]
  · refine C.go hT Try.func28 Try.ntmps28 ?_
    (repeat (first | refine st ?_ | refine nl ?_ | refine sq ?_ | refine rg ?_ | refine bl ?_ | refine sk ?_ | refine bk ?_ | refine bx ?_ | refine al ?_ | refine so ?_ | refine mk ?_ | refine ex ?_ | refine lb ?_ | refine cT ?_ | refine cF ?_ | refine sg ?_ | refine sp ?_ | refine su ?_ | refine cl ?_ (h := by exact fun _ _ hl => IGood_C _ _ .nil (hv.le hl))))
    exact rt ⟨rfl, rfl⟩
end Go.Proofs.Ytnkddjdmpnghmaa.Am
namespace Go.Proofs.Ytnkddjdmpnghmaa.Am
set_option linter.unusedSimpArgs false
set_option linter.unusedVariables false
set_option maxRecDepth 100000
set_option maxHeartbeats 4000000
open Go Go.RowKit
theorem legal_lt {l : List Item} {i : Int} (h : legalB l i = true) : 0 ≤ i ∧ i < l.length := by
  simp only [legalB, Bool.and_eq_true, decide_eq_true_eq] at h
  exact h.1
/-- of a line that may be: what it measures -/
def lineB (l : List Item) (a b : Int) : Bool := goodL l && legalB l b && decide (a < b) && (decide (a = -1) || legalB l a)
def measD (l : List Item) (a b : Int) : Int × Int × Int := if lineB l a b = true then (mW l (a + 1).toNat b.toNat, mY l (a + 1).toNat b.toNat, mZ l (a + 1).toNat b.toNat) else (0, 0, 0)
theorem lineB_no {l : List Item} {a b : Int} (h : ¬ lineB l a b = true) : measD l a b = (0, 0, 0) := by simp [measD, h]
theorem lineB_iff {l : List Item} {a b : Int} : lineB l a b = true ↔ ((goodL l && legalB l b) = true ∧ a < b ∧ (a = -1 ∨ (goodL l && legalB l a) = true)) := by
  simp only [lineB, Bool.and_eq_true, Bool.or_eq_true, decide_eq_true_eq]
  constructor
  · rintro ⟨⟨⟨h1, h2⟩, h3⟩, h4⟩; exact ⟨⟨h1, h2⟩, h3, h4.imp id fun h => ⟨h1, h⟩⟩
  · rintro ⟨⟨h1, h2⟩, h3, h4⟩; exact ⟨⟨⟨h1, h2⟩, h3⟩, h4.imp id fun h => h.2⟩
theorem lineB_facts {l : List Item} {a b : Int} (h : lineB l a b = true) : goodL l = true ∧ 0 ≤ b ∧ b < l.length ∧ -1 ≤ a ∧ a < b := by
  simp only [lineB, Bool.and_eq_true, Bool.or_eq_true, decide_eq_true_eq] at h
  obtain ⟨⟨⟨h1, h2⟩, h3⟩, h4⟩ := h
  have := legal_lt h2
  rcases h4 with h4 | h4
  · exact ⟨h1, by omega, by omega, by omega, h3⟩
  · have := legal_lt h4
    exact ⟨h1, by omega, by omega, by omega, h3⟩
theorem not_of {b : Bool} (h : (!b) = true) : ¬ b = true := by simpa using h
theorem of_not {b : Bool} (h : (!b) = false) : b = true := by simpa using h
theorem Measure_C (F : Mem) (v : Value) (l : List Item) (a b : Int) (hv : RItems F v l) : C0 Try.prog 19 [v, .int .i64 a, .int .i64 b] F (.tuple #[.int .i64 (measD l a b).1, .int .i64 (measD l a b).2.1, .int .i64 (measD l a b).2.2]) := by
  rcases hv.forms with ⟨vb, vo, vc, rfl⟩ | ⟨rfl, rfl⟩
  ·
    refine C.go hT Try.func19 Try.ntmps19 ?_
    refine sq ?_
    refine rg ?_
    iterate 3 (refine st (h := O) ?_)
    refine nl ?_
    iterate 2 (refine sq ?_)
    refine rg ?_
    iterate 2 (refine st (h := O) ?_)
    refine cl (h := by exact fun ι hV hl => Legal_C _ _ l _ (hv.le hl)) ?_
    iterate 2 (refine st (h := O) ?_)
    refine gB (fun g14 => ?_) (fun g14 => ?_)
    ·refine sp ?_
     iterate 2 (refine sp ?_)
     iterate 2 (refine st (h := O) ?_)
     iterate 3 (refine sp ?_)
     iterate 4 (refine su ?_)
     refine sp ?_
     refine st (h := O) ?_
     refine nl ?_
     refine cT ?_
     refine sq ?_
     refine rg ?_
     iterate 3 (refine st (h := O) ?_)
     refine nl ?_
     refine rt ⟨?_, rfl⟩
     rw [lineB_no (fun h => not_of g14 (lineB_iff.1 h).1)]
    ·refine sg (h := O) ?_
     iterate 2 (refine sg (h := O) ?_)
     iterate 2 (refine st (h := O) ?_)
     refine gD (fun g19 => ?_) (fun g19 => ?_)
     ·refine sp ?_
      iterate 2 (refine sp ?_)
      iterate 4 (refine su ?_)
      refine sp ?_
      refine st (h := O) ?_
      refine nl ?_
      refine cT ?_
      refine sq ?_
      refine rg ?_
      iterate 3 (refine st (h := O) ?_)
      refine nl ?_
      refine rt ⟨?_, rfl⟩
      rw [lineB_no (fun h => by have := (lineB_iff.1 h).2.1; omega)]
     ·refine sg (h := O) ?_
      iterate 2 (refine sg (h := O) ?_)
      refine gN (fun g22 => ?_) (fun g22 => ?_)
      ·refine sg (h := O) ?_
       refine sg (h := O) ?_
       refine clg (h := by exact fun ι hV hl => Legal_C _ _ l _ (hv.le hl)) ?_
       iterate 2 (refine sg (h := O) ?_)
       refine st (h := O) ?_
       refine nl ?_
       refine cB (fun c0 => ?_) (fun c0 => ?_)
       ·refine sq ?_
        refine rg ?_
        iterate 3 (refine st (h := O) ?_)
        refine nl ?_
        refine rt ⟨?_, rfl⟩
        rw [lineB_no (fun h => by rcases (lineB_iff.1 h).2.2 with h | h; · exact absurd h (by omega)
                                  · exact not_of c0 h)]
       ·have hB : lineB l a b = true := lineB_iff.2 ⟨of_not g14, by omega, by first | exact .inr (of_not c0) | exact .inl (by omega)⟩
        obtain ⟨hgl, hb0, hbl, ha0, hab⟩ := lineB_facts hB
        obtain ⟨a1, ha1⟩ := Int.eq_ofNat_of_zero_le (show (0 : Int) ≤ a + 1 by omega)
        obtain ⟨b1, rfl⟩ := Int.eq_ofNat_of_zero_le hb0
        refine sk ?_
        refine sq ?_
        refine rg ?_
        refine st (h := O) ?_
        refine clC (h := by exact fun ι hV hl => ready_C _ (.slice (some ⟨vb, vo, none⟩) l.length vc) l (hv.le hl) hgl) ?_
        intro p Y hQ hpv hpp hN
        have hp := hQ _ (hv.le hN.le) hN.rows
        obtain ⟨pb, po, lb, lo, lc, wb, wo, wc, yb, yo, yc, zb, zo, zc, bb, bo, bc, fb, fo, fc, rfl, hp2⟩ := id hp
        clear hp2
        iterate 2 (refine st (h := O) ?_)
        refine cl (h := by exact fun ι hV hl => measure_C _ _ l a a1 b1 (hp.le hl) hgl ha1 (by omega) (by omega)) ?_
        refine al ?_
        refine so ?_
        refine nl ?_
        refine sq ?_
        refine dr 9 [9] [0, 1, 2, 3, 4, 5, 6, 7, 8] ?_
        refine dt (hv := by exact sdFA) ?_
        refine dt (hv := by exact sdL) ?_
        refine dt (hv := by exact sdFA) ?_
        refine dt (hv := by exact sdL) ?_
        refine dt (hv := by exact sdFA) ?_
        refine dt (hv := by exact sdL) ?_
        iterate 3 (refine dt (hv := by exact O) ?_)
        refine dn ?_
        refine J.dropF ?_
        refine rt ⟨?_, rfl⟩
        simp only [measD, if_pos hB, ha1, Int.toNat_natCast]
      ·have hB : lineB l a b = true := lineB_iff.2 ⟨of_not g14, by omega, by first | exact .inr (of_not c0) | exact .inl (by omega)⟩
       obtain ⟨hgl, hb0, hbl, ha0, hab⟩ := lineB_facts hB
       obtain ⟨a1, ha1⟩ := Int.eq_ofNat_of_zero_le (show (0 : Int) ≤ a + 1 by omega)
       obtain ⟨b1, rfl⟩ := Int.eq_ofNat_of_zero_le hb0
       iterate 4 (refine sp ?_)
       refine sg (h := O) ?_
       refine st (h := O) ?_
       refine nl ?_
       refine cF ?_
       refine sk ?_
       refine sq ?_
       refine rg ?_
       refine st (h := O) ?_
       refine clC (h := by exact fun ι hV hl => ready_C _ (.slice (some ⟨vb, vo, none⟩) l.length vc) l (hv.le hl) hgl) ?_
       intro p Y hQ hpv hpp hN
       have hp := hQ _ (hv.le hN.le) hN.rows
       obtain ⟨pb, po, lb, lo, lc, wb, wo, wc, yb, yo, yc, zb, zo, zc, bb, bo, bc, fb, fo, fc, rfl, hp2⟩ := id hp
       clear hp2
       iterate 2 (refine st (h := O) ?_)
       refine cl (h := by exact fun ι hV hl => measure_C _ _ l a a1 b1 (hp.le hl) hgl ha1 (by omega) (by omega)) ?_
       refine al ?_
       refine so ?_
       refine nl ?_
       refine sq ?_
       refine dr 9 [9] [0, 1, 2, 3, 4, 5, 6, 7, 8] ?_
       refine dt (hv := by exact sdFA) ?_
       refine dt (hv := by exact sdL) ?_
       refine dt (hv := by exact sdFA) ?_
       refine dt (hv := by exact sdL) ?_
       refine dt (hv := by exact sdFA) ?_
       refine dt (hv := by exact sdL) ?_
       iterate 3 (refine dt (hv := by exact O) ?_)
       refine dn ?_
       refine J.dropF ?_
       refine rt ⟨?_, rfl⟩
       simp only [measD, if_pos hB, ha1, Int.toNat_natCast]
  · have h0 : measD [] a b = (0, 0, 0) := lineB_no (fun h => by cases (lineB_facts h).1)
    rw [h0]
    refine C.go hT Try.func19 Try.ntmps19 ?_
    refine sq ?_
    refine rg ?_
    iterate 3 (refine st (h := O) ?_)
    refine nl ?_
    iterate 2 (refine sq ?_)
    refine rg ?_
    iterate 2 (refine st (h := O) ?_)
    refine cl (h := by exact fun ι hV hl => Legal_C _ _ [] _ (hv.le hl)) ?_
    iterate 2 (refine st (h := O) ?_)
    refine gB (fun g14 => ?_) (fun g14 => ?_)
    ·refine sp ?_
     iterate 2 (refine sp ?_)
     iterate 2 (refine st (h := O) ?_)
     iterate 3 (refine sp ?_)
     iterate 4 (refine su ?_)
     refine sp ?_
     refine st (h := O) ?_
     refine nl ?_
     refine cT ?_
     refine sq ?_
     refine rg ?_
     iterate 3 (refine st (h := O) ?_)
     refine nl ?_
     exact rt ⟨rfl, rfl⟩
    ·cases of_not g14
end Go.Proofs.Ytnkddjdmpnghmaa.Am
namespace Go.Proofs.Ytnkddjdmpnghmaa.Am
set_option linter.unusedSimpArgs false
set_option linter.unusedVariables false
set_option maxRecDepth 100000
set_option maxHeartbeats 4000000
open Go Go.RowKit
end Go.Proofs.Ytnkddjdmpnghmaa.Am
namespace Go.Proofs.Ytnkddjdmpnghmaa.Am
set_option linter.unusedSimpArgs false
set_option linter.unusedVariables false
set_option maxRecDepth 100000
set_option maxHeartbeats 4000000
open Go Go.RowKit
/-- bounds of what stands in the table -/
structure TabOk (l : List Item) (i : Nat) (p : Int × Int) : Prop where
  lo : 0 ≤ p.1
  hi : p.1 < l.length
  up : p.1 = 0 ∨ (i : Int) ≤ p.1
  cl : -(223000000 * ((l.length : Int) - i)) ≤ p.2
  ch : p.2 ≤ 223000000 * ((l.length : Int) - i)
theorem TabOk.zero {l : List Item} {i : Nat} (h : i ≤ l.length) (h0 : 0 < l.length) : TabOk l i (0, 0) := ⟨by simp, by simp; omega, .inl rfl, by simp; omega, by simp; omega⟩
end Go.Proofs.Ytnkddjdmpnghmaa.Am
namespace Go.Proofs.Ytnkddjdmpnghmaa.Am
set_option linter.unusedSimpArgs false
set_option linter.unusedVariables false
set_option maxRecDepth 100000
set_option maxHeartbeats 4000000
open Go Go.RowKit
/-- the table, where it lies -/
def TB (l : List Item) (T : Nat → Int) (t : Nat → Nat → Int × Int) : Prop := ∀ i c, i < l.length → c < 4 → T (i * 8 + c) = (t i c).1 ∧ T (i * 8 + 4 + c) = (t i c).2
def setR (t : Nat → Nat → Int × Int) (a1 : Nat) (acc : Nat → Int × Int) : Nat → Nat → Int × Int := fun i => if i = a1 then acc else t i
theorem TB.at {l : List Item} {T : Nat → Int} {t : Nat → Nat → Int × Int} (h : TB l T t) {i c k : Nat} (hi : i < l.length) (hc : c < 4) (hk : k = i * 8 + c) : T k = (t i c).1 := hk ▸ (h i c hi hc).1
theorem TB.upd {l : List Item} {T : Nat → Int} {t : Nat → Nat → Int × Int} {a1 c A B : Nat} {acc acc' : Nat → Int × Int} {p q : Int} (h : TB l T (setR t a1 acc)) (hc : c < 4) (hA : A = a1 * 8 + c) (hB : B = a1 * 8 + 4 + c) (h1 : acc' c = (p, q)) (he : ∀ c', c' < 4 → c' ≠ c → acc' c' = acc c') : TB l (setI (setI T A p) B q) (setR t a1 acc') := by
  subst hA hB
  intro i c' hi hc'
  have := h i c' hi hc'
  unfold setR at this ⊢
  by_cases e : i = a1
  · subst e
    rw [if_pos rfl] at this ⊢
    by_cases e2 : c' = c
    · subst e2
      have n1 : i * 8 + c' ≠ i * 8 + 4 + c' := by omega
      simp [setI, h1, n1]
    · have n1 : i * 8 + c' ≠ i * 8 + c := by omega
      have n2 : i * 8 + c' ≠ i * 8 + 4 + c := by omega
      have n3 : i * 8 + 4 + c' ≠ i * 8 + 4 + c := by omega
      have n4 : i * 8 + 4 + c' ≠ i * 8 + c := by omega
      simp only [setI, n1, n2, n3, n4, if_false, he c' hc' e2]
      exact this
  · rw [if_neg e] at this ⊢
    have n1 : i * 8 + c' ≠ a1 * 8 + c := by omega
    have n2 : i * 8 + c' ≠ a1 * 8 + 4 + c := by omega
    have n3 : i * 8 + 4 + c' ≠ a1 * 8 + 4 + c := by omega
    have n4 : i * 8 + 4 + c' ≠ a1 * 8 + c := by omega
    simp only [setI, n1, n2, n3, n4, if_false]
    exact this
end Go.Proofs.Ytnkddjdmpnghmaa.Am
namespace Go.Proofs.Ytnkddjdmpnghmaa.Am
set_option linter.unusedSimpArgs false
set_option linter.unusedVariables false
set_option maxRecDepth 100000
set_option maxHeartbeats 4000000
open Go Go.RowKit
end Go.Proofs.Ytnkddjdmpnghmaa.Am
namespace Go.Proofs.Ytnkddjdmpnghmaa.Am
set_option linter.unusedSimpArgs false
set_option linter.unusedVariables false
set_option maxRecDepth 100000
set_option maxHeartbeats 4000000
open Go Go.RowKit
theorem ends_C (F : Mem) (v : Value) (l : List Item) (a b : Int) (hv : RItems F v l) : C0 Try.prog 42 [v, .int .i64 a, .int .i64 b] F (.bool ((decide (a = -1) || legalB l a) && (legalB l b && decide (a < b)))) := by
  rcases hv.forms with ⟨vb, vo, vc, rfl⟩ | ⟨rfl, rfl⟩
  all_goals
    refine C.go hT Try.func42 Try.ntmps42 ?_
    refine sq ?_
    refine rg ?_
    refine st (h := O) ?_
    refine nl ?_
    refine sq ?_
    refine rg ?_
    iterate 3 (refine st (h := O) ?_)
    refine gD (fun g9 => ?_) (fun g9 => ?_)
    ·refine sp ?_
     iterate 2 (refine sp ?_)
     iterate 2 (refine st (h := O) ?_)
     iterate 2 (refine sg (h := O) ?_)
     refine clg (h := by exact fun ι hV hl => RLegal_C _ _ _ _ (hv.le hl)) ?_
     iterate 2 (refine st (h := O) ?_)
     refine gB (fun g19 => ?_) (fun g19 => ?_)
     ·refine sg (h := O) ?_
      iterate 2 (refine sg (h := O) ?_)
      iterate 2 (refine st (h := O) ?_)
      refine nl ?_
      refine rt ⟨?_, rfl⟩
      simp_all
     ·refine sp ?_
      iterate 2 (refine sp ?_)
      iterate 2 (refine st (h := O) ?_)
      refine nl ?_
      refine rt ⟨?_, rfl⟩
      simp_all
    ·refine sg (h := O) ?_
     refine sg (h := O) ?_
     refine clg (h := by exact fun ι hV hl => RLegal_C _ _ _ _ (hv.le hl)) ?_
     iterate 2 (refine st (h := O) ?_)
     refine gB (fun g14 => ?_) (fun g14 => ?_)
     ·refine sg (h := O) ?_
      refine sg (h := O) ?_
      refine clg (h := by exact fun ι hV hl => RLegal_C _ _ _ _ (hv.le hl)) ?_
      iterate 2 (refine st (h := O) ?_)
      refine gB (fun g19 => ?_) (fun g19 => ?_)
      ·refine sg (h := O) ?_
       iterate 2 (refine sg (h := O) ?_)
       iterate 2 (refine st (h := O) ?_)
       refine nl ?_
       refine rt ⟨?_, rfl⟩
       simp_all
      ·refine sp ?_
       iterate 2 (refine sp ?_)
       iterate 2 (refine st (h := O) ?_)
       refine nl ?_
       refine rt ⟨?_, rfl⟩
       simp_all
     ·refine sp ?_
      iterate 2 (refine sp ?_)
      iterate 2 (refine st (h := O) ?_)
      iterate 3 (refine sp ?_)
      iterate 2 (refine st (h := O) ?_)
      refine nl ?_
      refine rt ⟨?_, rfl⟩
      simp_all
/-- the reference's first item of a line -/
theorem begin_eq {l : List Item} (hg : goodL l = true) : ∀ d i b, i + d = b → b ≤ l.length → beginAt l b d i = min (bgD l (l.length - i) i) b
  | 0, i, b, h, hb => by
    have := (bgD_bd l (l.length - i) i).1
    simp [beginAt]; omega
  | d + 1, i, b, h, hb => by
    have hi : i < l.length := by omega
    have hk := good_ok hg hi
    simp only [Item.ok, decide_eq_true_eq] at hk
    rw [show l.length - i = (l.length - (i + 1)) + 1 from by omega]
    simp only [beginAt, bgD]
    rw [if_pos (by omega)]
    by_cases hs : skipB (at_ l i) = true
    · rw [if_pos hs, begin_eq hg d (i + 1) b (by omega) hb]
      have h1 : ¬ forceB (at_ l i) = true := by
        simp only [skipB, forceB, Bool.or_eq_true, Bool.and_eq_true, decide_eq_true_eq] at hs ⊢
        omega
      have h2 : ¬ (at_ l i).kind = 1 := by
        simp only [skipB, Bool.or_eq_true, Bool.and_eq_true, decide_eq_true_eq] at hs
        omega
      rw [if_neg h1, if_neg h2]
    · rw [if_neg hs]
      have h1 : forceB (at_ l i) = true ∨ (at_ l i).kind = 1 := by
        simp only [skipB, forceB, Bool.or_eq_true, Bool.and_eq_true, decide_eq_true_eq] at hs ⊢
        omega
      rcases h1 with h1 | h1
      · rw [if_pos h1]; omega
      · split <;> omega
theorem rmeasure_C (F : Mem) (v : Value) (l : List Item) (a : Int) (a1 b : Nat) (hv : RItems F v l) (hg : goodL l = true) (ha : a + 1 = a1) (hab : a1 ≤ b) (hb : b < l.length) : C0 Try.prog 43 [v, .int .i64 a, .int .i64 b] F (.tuple #[.int .i64 (mW l a1 b), .int .i64 (mY l a1 b), .int .i64 (mZ l a1 b)]) := by
  have hlen := good_len hg
  rcases hv.cases with ⟨vb, vo, vc, rfl, _, hr⟩ | ⟨rfl, rfl⟩
  · have hbe : beginAt l (b : Int).toNat ((b : Int).toNat - (a + 1).toNat) (a + 1).toNat = fromA l a1 b := by
      rw [ha, Int.toNat_natCast, Int.toNat_natCast]
      exact begin_eq hg (b - a1) a1 b (by omega) (by omega)
    have hfr : a1 ≤ fromA l a1 b ∧ fromA l a1 b ≤ b := ⟨by unfold fromA; have := (bgD_bd l (l.length - a1) a1).1; unfold bgA; omega, Nat.min_le_right _ _⟩
    unfold mW mY mZ
    generalize fromA l a1 b = f at *
    have hbd : ∀ n, n ≤ l.length → _ := fun n => sums_bd hg n
    have hb0 := hbd b (by omega)
    have hf0 := hbd f (by omega)
    obtain ⟨s0, s1, _⟩ := hr b hb
    refine C.go hT Try.func43 Try.ntmps43 ?_
    refine sq ?_
    refine rg ?_
    iterate 3 (refine st (h := O) ?_)
    refine nl ?_
    refine sq ?_
    refine rg ?_
    iterate 3 (refine st (h := O) ?_)
    refine nl ?_
    iterate 2 (refine sq ?_)
    refine rg ?_
    iterate 3 (refine st (h := O) ?_)
    refine cl (h := by exact fun ι hV hl => RBegin_C _ _ l a b (hv.le hl) (by omega) (by omega) (by omega)) ?_
    rw [hbe]
    refine st (h := O) ?_
    refine nl ?_
    refine bl ?_
    refine J.loop4 (α := Nat) (β := Int) (γ := Int) (δ := Int) (fun i w y z => f ≤ i ∧ i ≤ b ∧ w = wS l i - wS l f ∧ y = yS l i - yS l f ∧ z = zS l i - zS l f) (fun i w y z => [(9, .int .i64 w), (10, .int .i64 y), (11, .int .i64 z), (12, .int .i64 i)]) [(0, _), (2, _)] (fun i w y z => []) [] (fun i w y z => b - i) (f) (0) (0) (0) (by exact ⟨rfl, rfl, rfl, rfl, trivial⟩) (by exact ⟨rfl, rfl, trivial⟩) (by exact trivial) ?_ ?_
    · exact ⟨by omega, by omega, by omega, by omega, by omega⟩
    ·intro i w y z L1 K1 e1 e2 hI
     dsimp only [apV, apR, List.cons_append, List.nil_append] at e1 e2
     subst e1 e2
     obtain ⟨hfi, hib, hw, hy, hz⟩ := hI
     iterate 2 (refine sq ?_)
     refine rg ?_
     iterate 3 (refine st (h := O) ?_)
     refine nl ?_
     refine cD (fun c0 => ?_) (fun c0 => ?_)
     ·have hil : i < l.length := by omega
      obtain ⟨r0, r1, r2, r3, _⟩ := hr i hil
      have hok := good_ok hg hil
      simp only [Item.ok, decide_eq_true_eq] at hok
      have hi0 := hbd i (by omega)
      have ew : wS l (i + 1) = wS l i + (if (at_ l i).kind = 3 then 0 else (at_ l i).width) := rfl
      have ey : yS l (i + 1) = yS l i + (if (at_ l i).kind = 2 then (at_ l i).stretch else 0) := rfl
      have ez : zS l (i + 1) = zS l i + (if (at_ l i).kind = 2 then (at_ l i).shrink else 0) := rfl
      refine sk ?_
      refine sq ?_
      refine bl ?_
      iterate 2 (refine sq ?_)
      refine rg ?_
      iterate 2 (refine st (h := O) ?_)
      refine st (h := (sdX (z := 11))) ?_
      refine st (h := sdFA) ?_
      refine st (h := (by first | exact sdLG | exact sdW)) ?_
      refine st (h := O) ?_
      refine nl ?_
      refine cD (fun c1 => ?_) (fun c1 => ?_)
      ·refine ex ?_
       refine rg ?_
       refine st (h := O) ?_
       refine st (h := sdA) ?_
       refine st (h := O) ?_
       refine nl ?_
       refine bk4 (i + 1) (_) (_) (_) (by exact ⟨rfl, rfl, rfl, rfl, trivial⟩) (by exact ⟨rfl, rfl, trivial⟩) (by exact trivial) ?_ ?_
       · omega
       · first
           | (rw [if_pos c1] at ew; rw [if_neg (by omega)] at ey ez; exact ⟨by omega, by omega, by omega, by omega, by omega⟩)
           | (rw [if_neg c1] at ew; rw [if_pos c2] at ey ez; exact ⟨by omega, by omega, by omega, by omega, by omega⟩)
           | (rw [if_neg c1] at ew; rw [if_neg c2] at ey ez; exact ⟨by omega, by omega, by omega, by omega, by omega⟩)
      ·refine sk ?_
       refine sq ?_
       refine rg ?_
       iterate 3 (refine st (h := O) ?_)
       refine st (h := (sdX (z := 11))) ?_
       refine st (h := sdFA) ?_
       refine st (h := (by first | exact sdLG | exact sdW)) ?_
       refine st (h := sdA) ?_
       refine st (h := O) ?_
       refine nl ?_
       refine sq ?_
       refine rg ?_
       iterate 2 (refine st (h := O) ?_)
       refine st (h := (sdX (z := 11))) ?_
       refine st (h := sdFA) ?_
       refine st (h := (by first | exact sdLG | exact sdW)) ?_
       refine st (h := O) ?_
       refine nl ?_
       refine cD (fun c2 => ?_) (fun c2 => ?_)
       ·refine sq ?_
        refine rg ?_
        iterate 3 (refine st (h := O) ?_)
        refine st (h := (sdX (z := 11))) ?_
        refine st (h := sdFA) ?_
        refine st (h := (by first | exact sdLG | exact sdW)) ?_
        refine st (h := sdA) ?_
        refine st (h := O) ?_
        refine nl ?_
        refine rg ?_
        iterate 3 (refine st (h := O) ?_)
        refine st (h := (sdX (z := 11))) ?_
        refine st (h := sdFA) ?_
        refine st (h := (by first | exact sdLG | exact sdW)) ?_
        refine st (h := sdA) ?_
        refine st (h := O) ?_
        refine nl ?_
        refine bk ?_
        refine rg ?_
        refine st (h := O) ?_
        refine st (h := sdA) ?_
        refine st (h := O) ?_
        refine nl ?_
        refine bk4 (i + 1) (_) (_) (_) (by exact ⟨rfl, rfl, rfl, rfl, trivial⟩) (by exact ⟨rfl, rfl, trivial⟩) (by exact trivial) ?_ ?_
        · omega
        · first
            | (rw [if_pos c1] at ew; rw [if_neg (by omega)] at ey ez; exact ⟨by omega, by omega, by omega, by omega, by omega⟩)
            | (rw [if_neg c1] at ew; rw [if_pos c2] at ey ez; exact ⟨by omega, by omega, by omega, by omega, by omega⟩)
            | (rw [if_neg c1] at ew; rw [if_neg c2] at ey ez; exact ⟨by omega, by omega, by omega, by omega, by omega⟩)
       ·refine sk ?_
        refine bk ?_
        refine rg ?_
        refine st (h := O) ?_
        refine st (h := sdA) ?_
        refine st (h := O) ?_
        refine nl ?_
        refine bk4 (i + 1) (_) (_) (_) (by exact ⟨rfl, rfl, rfl, rfl, trivial⟩) (by exact ⟨rfl, rfl, trivial⟩) (by exact trivial) ?_ ?_
        · omega
        · first
            | (rw [if_pos c1] at ew; rw [if_neg (by omega)] at ey ez; exact ⟨by omega, by omega, by omega, by omega, by omega⟩)
            | (rw [if_neg c1] at ew; rw [if_pos c2] at ey ez; exact ⟨by omega, by omega, by omega, by omega, by omega⟩)
            | (rw [if_neg c1] at ew; rw [if_neg c2] at ey ez; exact ⟨by omega, by omega, by omega, by omega, by omega⟩)
     ·obtain rfl : i = b := by omega
      have hok := good_ok hg hb
      simp only [Item.ok, decide_eq_true_eq] at hok
      refine ex ?_
      iterate 2 (refine sq ?_)
      refine rg ?_
      iterate 2 (refine st (h := O) ?_)
      refine st (h := (sdX (z := 11))) ?_
      refine st (h := sdFA) ?_
      refine st (h := (by first | exact sdLG | exact sdW)) ?_
      refine st (h := O) ?_
      refine nl ?_
      refine cD (fun c3 => ?_) (fun c3 => ?_)
      ·refine rg ?_
       iterate 3 (refine st (h := O) ?_)
       refine st (h := (sdX (z := 11))) ?_
       refine st (h := sdFA) ?_
       refine st (h := (by first | exact sdLG | exact sdW)) ?_
       refine st (h := sdA) ?_
       refine st (h := O) ?_
       refine nl ?_
       refine sq ?_
       refine rg ?_
       iterate 6 (refine st (h := O) ?_)
       refine nl ?_
       refine rt ⟨?_, rfl⟩
       subst hw hy hz
       first
         | rw [if_pos c3]
         | rw [if_neg c3, Int.add_zero]
      ·refine sk ?_
       refine sq ?_
       refine rg ?_
       iterate 6 (refine st (h := O) ?_)
       refine nl ?_
       refine rt ⟨?_, rfl⟩
       subst hw hy hz
       first
         | rw [if_pos c3]
         | rw [if_neg c3, Int.add_zero]
  · simp at hb
end Go.Proofs.Ytnkddjdmpnghmaa.Am
namespace Go.Proofs.Ytnkddjdmpnghmaa.Am
set_option linter.unusedSimpArgs false
set_option linter.unusedVariables false
set_option maxRecDepth 100000
set_option maxHeartbeats 4000000
open Go Go.RowKit
theorem R24Legal_C (F : Mem) (v : Value) (l : List Item) (i : Int) (hv : RItems F v l) : C0 Try.prog 24 [v, .int .i64 i] F (.bool (goodL l && legalB l i)) := by
  rcases hv.forms with ⟨vb, vo, vc, rfl⟩ | ⟨rfl, rfl⟩
  all_goals
    refine C.go hT Try.func24 Try.ntmps24 ?_
    refine sq ?_
    refine rg ?_
    refine st (h := O) ?_
    refine nl ?_
    refine sq ?_
    refine rg ?_
    refine st (h := O) ?_
    refine cl (h := by exact fun ι hV hl => RGood_C _ _ _ (hv.le hl)) ?_
    refine st (h := O) ?_
    refine gB (fun g7 => ?_) (fun g7 => ?_)
    ·refine sg (h := O) ?_
     refine sg (h := O) ?_
     refine clg (h := by exact fun ι hV hl => RLegal_C _ _ _ _ (hv.le hl)) ?_
     iterate 2 (refine st (h := O) ?_)
     refine nl ?_
     refine rt ⟨?_, rfl⟩
     simp_all
    ·refine sp ?_
     iterate 2 (refine sp ?_)
     iterate 2 (refine st (h := O) ?_)
     refine nl ?_
     refine rt ⟨?_, rfl⟩
     simp_all
theorem ends_iff {l : List Item} {a b : Int} (hg : goodL l = true) : ((decide (a = -1) || legalB l a) && (legalB l b && decide (a < b))) = lineB l a b := by
  rw [Bool.eq_iff_iff]
  simp only [lineB, hg, Bool.true_and, Bool.and_eq_true, Bool.or_eq_true, decide_eq_true_eq]
  constructor
  · rintro ⟨h1, h2, h3⟩; exact ⟨⟨h2, h3⟩, h1⟩
  · rintro ⟨⟨h2, h3⟩, h1⟩; exact ⟨h1, h2, h3⟩
theorem R24Measure_C (F : Mem) (v : Value) (l : List Item) (a b : Int) (hv : RItems F v l) : C0 Try.prog 23 [v, .int .i64 a, .int .i64 b] F (.tuple #[.int .i64 (measD l a b).1, .int .i64 (measD l a b).2.1, .int .i64 (measD l a b).2.2]) := by
  have hno : ¬ lineB l a b = true → measD l a b = (0, 0, 0) := lineB_no
  rcases hv.forms with ⟨vb, vo, vc, rfl⟩ | ⟨rfl, rfl⟩
  ·
    refine C.go hT Try.func23 Try.ntmps23 ?_
    refine sq ?_
    refine rg ?_
    iterate 3 (refine st (h := O) ?_)
    refine nl ?_
    iterate 2 (refine sq ?_)
    refine rg ?_
    refine st (h := O) ?_
    refine cl (h := by exact fun ι hV hl => RGood_C _ _ l (hv.le hl)) ?_
    iterate 2 (refine st (h := O) ?_)
    refine gB (fun g12 => ?_) (fun g12 => ?_)
    ·refine sp ?_
     iterate 4 (refine sp ?_)
     refine st (h := O) ?_
     refine nl ?_
     refine cT ?_
     refine sq ?_
     refine rg ?_
     iterate 3 (refine st (h := O) ?_)
     refine nl ?_
     refine rt ⟨?_, rfl⟩
     rw [hno (fun h => not_of g12 (lineB_facts h).1)]
    ·refine sg (h := O) ?_
     iterate 2 (refine sg (h := O) ?_)
     refine clg (h := by exact fun ι hV hl => ends_C _ _ l _ _ (hv.le hl)) ?_
     rw [ends_iff (of_not g12)]
     refine sg (h := O) ?_
     refine st (h := O) ?_
     refine nl ?_
     refine cB (fun c0 => ?_) (fun c0 => ?_)
     ·refine sq ?_
      refine rg ?_
      iterate 3 (refine st (h := O) ?_)
      refine nl ?_
      refine rt ⟨?_, rfl⟩
      rw [hno (not_of c0)]
     ·have hB := of_not c0
      obtain ⟨hgl, hb0, hbl, ha0, hab⟩ := lineB_facts hB
      obtain ⟨a1, ha1⟩ := Int.eq_ofNat_of_zero_le (show (0 : Int) ≤ a + 1 by omega)
      obtain ⟨b1, rfl⟩ := Int.eq_ofNat_of_zero_le hb0
      refine sk ?_
      refine sq ?_
      refine rg ?_
      iterate 3 (refine st (h := O) ?_)
      refine cl (h := by exact fun ι hV hl => rmeasure_C _ _ l a a1 b1 (hv.le hl) hgl ha1 (by omega) (by omega)) ?_
      iterate 6 (refine st (h := O) ?_)
      refine nl ?_
      refine rt ⟨?_, rfl⟩
      simp only [measD, if_pos hB, ha1, Int.toNat_natCast]
  · rw [hno (fun h => by cases (lineB_facts h).1)]
    refine C.go hT Try.func23 Try.ntmps23 ?_
    refine sq ?_
    refine rg ?_
    iterate 3 (refine st (h := O) ?_)
    refine nl ?_
    iterate 2 (refine sq ?_)
    refine rg ?_
    refine st (h := O) ?_
    refine cl (h := by exact fun ι hV hl => RGood_C _ _ [] (hv.le hl)) ?_
    iterate 2 (refine st (h := O) ?_)
    refine gB (fun g12 => ?_) (fun g12 => ?_)
    ·refine sp ?_
     iterate 4 (refine sp ?_)
     refine st (h := O) ?_
     refine nl ?_
     refine cT ?_
     refine sq ?_
     refine rg ?_
     iterate 3 (refine st (h := O) ?_)
     refine nl ?_
     exact rt ⟨rfl, rfl⟩
    ·cases of_not g12
end Go.Proofs.Ytnkddjdmpnghmaa.Am
namespace Go.Proofs.Ytnkddjdmpnghmaa.Am
set_option linter.unusedSimpArgs false
set_option linter.unusedVariables false
set_option maxRecDepth 100000
set_option maxHeartbeats 4000000
open Go Go.RowKit
theorem Item.cells_len (x : Item) (g : Value) : (x.cells g).length = 11 := rfl
theorem Item.cells_plain (x : Item) {g : Value} (h : plain1 g = true) : ∀ u ∈ x.cells g, plain1 u = true := by
  intro u hu
  simp only [Item.cells, List.mem_cons, List.not_mem_nil, or_false] at hu
  rcases hu with rfl | rfl | rfl | rfl | rfl | rfl | rfl | rfl | rfl | rfl | rfl <;> first | rfl | exact h
/-- rows that hold copies of some items -/
def CpR (l : List Item) (Y : List (Nat × Row)) (gs : List Value) : Prop := ∀ i g, gs[i]? = some g → plain1 g = true ∧ ∀ G, Rd G Y → RInts G g (at_ l i).glyphs
def cellsG (l : List Item) (gs : List Value) : List (List Value) := (List.range gs.length).map fun i => (at_ l i).cells (gs.getD i .nilFunc)
theorem cellsG_snoc (l : List Item) (gs : List Value) (g : Value) : (cellsG l (gs ++ [g])).flatten = (cellsG l gs).flatten ++ (at_ l gs.length).cells g := by
  unfold cellsG
  rw [List.length_append, List.length_singleton, List.range_succ, List.map_append, List.flatten_append]
  congr 1
  · congr 1
    apply List.map_congr_left
    intro i hi
    have : i < gs.length := List.mem_range.1 hi
    simp [List.getD_eq_getElem?_getD, List.getElem?_append_left this]
  · simp [List.getD_eq_getElem?_getD]
theorem CpR.snoc {l : List Item} {Y Z : List (Nat × Row)} {gs : List Value} {g : Value} (h : CpR l Y gs) (hp : plain1 g = true) (hg : ∀ G, Rd G (Z ++ Y) → RInts G g (at_ l gs.length).glyphs) : CpR l (Z ++ Y) (gs ++ [g]) := by
  intro i u hu
  by_cases hi : i < gs.length
  · rw [List.getElem?_append_left hi] at hu
    obtain ⟨h1, h2⟩ := h i u hu
    exact ⟨h1, fun G hG => h2 G hG.app_right⟩
  · have hl := (List.getElem?_eq_some_iff.1 hu).1
    simp at hl
    obtain rfl : i = gs.length := by omega
    simp at hu
    subst hu
    exact ⟨hp, hg⟩
theorem CpR.step {l : List Item} {Y Z : List (Nat × Row)} {gs cs news : List Value} {k : Nat} {x : Item} {g : Value} (hgs : gs.length = k) (hcs : cs = (cellsG l gs).flatten) (hcp : CpR l Y gs) (hk : k < l.length) (hx : at_ l k = x) (hn : news = x.cells g) (hp : plain1 g = true) (hg : ∀ G, Rd G (Z ++ Y) → RInts G g x.glyphs) :
    ∃ gs', gs'.length = k + 1 ∧ cs ++ news = (cellsG l gs').flatten ∧ CpR l (Z ++ Y) gs' := by
  subst hgs hcs hn hx
  exact ⟨gs ++ [g], by simp, (cellsG_snoc l gs g).symm, hcp.snoc hp hg⟩
theorem Rd.ivsW {G : Mem} {Y : List (Nat × Row)} (h : Rd G Y) {b n c : Nat} {r : Row} {xs : List Int} (hm : (b, r) ∈ Y) (hcs : r.cs = Am.ivs xs) (hn : n = xs.length) (hl : xs.length ≤ 9223372036854775807) : RInts G (.slice (some ⟨b, 0, none⟩) n c) xs := by
  subst hn
  refine .inl ⟨b, 0, c, rfl, hl, fun i x hx => ?_⟩
  rw [Nat.zero_add]
  refine h _ hm i _ ?_
  rw [hcs]
  exact ivs_get hx
theorem cellsG_row {l : List Item} {gs : List Value} {i : Nat} {g : Value} (h : gs[i]? = some g) : (cellsG l gs)[i]? = some ((at_ l i).cells g) := by
  have hi := (List.getElem?_eq_some_iff.1 h).1
  unfold cellsG
  simp only [List.getElem?_map, List.getElem?_range hi, Option.map_some, List.getD_eq_getElem?_getD, h, Option.getD_some]
theorem cs_c {l : List Item} {Y : List (Nat × Row)} {gs cs : List Value} (h : CpR l Y gs) (hcs : cs = (cellsG l gs).flatten) (ι : Nat → Nat) : cs.map (r1 ι) = cs := by
  conv => rhs; rw [← List.map_id cs]
  refine List.map_congr_left fun u hu => r1_plain ι ?_
  rw [hcs] at hu
  obtain ⟨y, hy, hu⟩ := List.mem_flatten.1 hu
  obtain ⟨i, hi, rfl⟩ := List.mem_map.1 hy
  have hil := List.mem_range.1 hi
  refine Item.cells_plain _ (h i _ ?_).1 u hu
  simp [List.getD_eq_getElem?_getD, List.getElem?_eq_getElem hil]
theorem Copied {G : Mem} {Y : List (Nat × Row)} {l : List Item} {gs : List Value} {b c : Nat} {r : Row} (h : CpR l Y gs) (hl : gs.length = l.length) (hcs : r.cs = (cellsG l gs).flatten) (hG : Rd G ((b, r) :: Y)) (hb : l.length ≤ 9223372036854775807) : RItems G (.slice (some ⟨b, 0, none⟩) l.length c) l := by
  refine .inl ⟨b, 0, c, rfl, hb, fun i x hx => ?_⟩
  have hi := (List.getElem?_eq_some_iff.1 hx).1
  obtain ⟨g, hg⟩ : ∃ g, gs[i]? = some g := ⟨_, List.getElem?_eq_getElem (by omega)⟩
  have hxe : at_ l i = x := by simp [at_, List.getD_eq_getElem?_getD, hx]
  obtain ⟨h1, h2⟩ := h i g hg
  rw [hxe] at h2
  refine ⟨g, ?_, .inl (h2 G (Rd.app_right (Z := [(b, r)]) hG))⟩
  have := lookN_of (F := G) (a := ⟨b, 0 + i * 11, none⟩) (cs := x.cells g) (fun j v hv => by
    have hj : j < 11 := by have := (List.getElem?_eq_some_iff.1 hv).1; rwa [Item.cells_len] at this
    refine hG (b, r) List.mem_cons_self (0 + i * 11 + j) v ?_
    rw [hcs, Nat.zero_add, flat_at (fun y hy => by
      obtain ⟨k, _, rfl⟩ := List.mem_map.1 hy
      exact Item.cells_len _ _) hj, cellsG_row hg, hxe]
    exact hv)
  rwa [Item.cells_len] at this
end Go.Proofs.Ytnkddjdmpnghmaa.Am
namespace Go.Proofs.Ytnkddjdmpnghmaa.Am
set_option linter.unusedSimpArgs false
set_option linter.unusedVariables false
set_option maxRecDepth 100000
set_option maxHeartbeats 4000000
open Go Go.RowKit
def gluI : Item := ⟨2, 5, 3, 2, 0, false, 0, 0, 0, 0, []⟩
def boxI : Item := ⟨1, 10, 0, 0, 0, false, 0, 0, 0, 0, []⟩
def fivePre : Nat → List Item
  | 0 => []
  | i + 1 => fivePre i ++ (if 0 < i then [gluI, boxI] else [boxI])
def fiveL : List Item := fivePre 5 ++ [⟨3, 0, 0, 0, 10000, false, 0, 0, 0, 0, []⟩, ⟨2, 0, 1073741824, 0, 0, false, 0, 0, 0, 0, []⟩, ⟨3, 0, 0, 0, -10000, false, 0, 0, 0, 0, []⟩]
def cellsI (l : List Item) : List Value := (l.map fun x => x.cells (.slice none 0 0)).flatten
theorem fivePre_len : ∀ i, (fivePre i).length ≤ 2 * i
  | 0 => Nat.le_refl _
  | i + 1 => by
    have := fivePre_len i
    simp only [fivePre, List.length_append]
    split <;> simp <;> omega
theorem cellsI_app (l m : List Item) : cellsI (l ++ m) = cellsI l ++ cellsI m := by simp [cellsI]
theorem cellsI_len (l : List Item) : (cellsI l).length = l.length * 11 := by
  induction l with
  | nil => rfl
  | cons x l ih =>
    simp only [cellsI, List.map_cons, List.flatten_cons, List.length_append, Item.cells_len, List.length_cons] at ih ⊢
    omega
theorem cellsI_c (l : List Item) (ι : Nat → Nat) : (cellsI l).map (r1 ι) = cellsI l := by
  conv => rhs; rw [← List.map_id (cellsI l)]
  refine List.map_congr_left fun u hu => r1_plain ι ?_
  obtain ⟨y, hy, hu⟩ := List.mem_flatten.1 hu
  obtain ⟨x, _, rfl⟩ := List.mem_map.1 hy
  exact Item.cells_plain x rfl u hu
end Go.Proofs.Ytnkddjdmpnghmaa.Am
namespace Go.Proofs.Ytnkddjdmpnghmaa.Am
set_option linter.unusedSimpArgs false
set_option linter.unusedVariables false
set_option maxRecDepth 100000
set_option maxHeartbeats 4000000
open Go Go.RowKit
theorem i64_mask20 (x : Int) : Go.bits .and .i64 x 1048575 = x % 1048576 := by
  have h1 : (BitVec.ofInt 64 x &&& BitVec.ofInt 64 1048575).toNat = (x % 18446744073709551616).toNat % 1048576 := by
    rw [BitVec.toNat_and, BitVec.toNat_ofInt, BitVec.toNat_ofInt]
    have e2 : ((1048575 : Int) % ((2 ^ 64 : Nat) : Int)).toNat = 2 ^ 20 - 1 := by decide
    rw [e2, Nat.and_two_pow_sub_one_eq_mod]
    rfl
  show IntKind.i64.wrap (((BitVec.ofInt 64 x &&& BitVec.ofInt 64 1048575).toNat : Nat) : Int) = x % 1048576
  rw [h1, IntKind.wrap_i64]
  omega
def inB (x : Int) : Prop := -1099511627776 ≤ x ∧ x ≤ 1099511627776
instance (x : Int) : Decidable (inB x) := inferInstanceAs (Decidable (_ ∧ _))
/-- the sum of the first ones -/
def sumL (xs : List Int) : Nat → Int
  | 0 => 0
  | k + 1 => sumL xs k + ints xs k
def inL (xs : List Int) (k : Nat) : Prop := ∀ j < k, inB (ints xs j)
instance (xs : List Int) (k : Nat) : Decidable (inL xs k) := by unfold inL; infer_instance
theorem inL_s {xs : List Int} {k : Nat} (h : inL xs k) (hb : inB (ints xs k)) : inL xs (k + 1) := fun j hj => by
  rcases Nat.lt_or_ge j k with h' | h'
  · exact h j h'
  · obtain rfl : j = k := by omega
    exact hb
theorem sumL_bd {xs : List Int} : ∀ k, inL xs k → -(k * 1099511627776) ≤ sumL xs k ∧ sumL xs k ≤ k * 1099511627776
  | 0, _ => by simp [sumL]
  | k + 1, h => by
    have h1 := sumL_bd k fun j hj => h j (by omega)
    have h2 := h k (by omega)
    unfold inB at h2
    rw [sumL]
    omega
/-- the sum, if it and all of them are in -/
def sumS (xs : List Int) : Int × Bool := if inL xs xs.length then keepS (sumL xs xs.length) else (0, false)
theorem sumS_no {xs : List Int} {k : Nat} (hk : k < xs.length) (h : ¬ inB (ints xs k)) : sumS xs = (0, false) := if_neg fun g => h (g k hk)
theorem keepS_bd (x : Int) : -1099511627776 ≤ (keepS x).1 ∧ (keepS x).1 ≤ 1099511627776 := by
  unfold keepS
  split
  · assumption
  · exact ⟨by decide, by decide⟩
theorem fSum_C (F : Mem) (a : Option Addr) (c : Nat) (xs : List Int) (ha : RIx F a xs) (hl : xs.length ≤ 1048576) : C0 Try.prog 59 [.slice a xs.length c] F (.tuple #[.int .i64 (sumS xs).1, .bool (sumS xs).2]) := by
  refine C.go hT Try.func59 Try.ntmps59 ?_
  refine sq ?_
  refine rg ?_
  iterate 2 (refine st (h := O) ?_)
  refine nl ?_
  refine sq ?_
  refine rg ?_
  iterate 2 (refine st (h := O) ?_)
  refine nl ?_
  iterate 2 (refine sq ?_)
  refine rg ?_
  iterate 3 (refine st (h := O) ?_)
  refine nl ?_
  refine bl ?_
  refine J.loop3 (α := Nat) (β := Int) (γ := Int) (fun k h w => k ≤ xs.length ∧ inL xs k ∧ h * 1048576 + w = sumL xs k ∧ 0 ≤ w ∧ w ≤ k * 1048575 ∧ -(k * 1048576) ≤ h ∧ h ≤ k * 1048576) (fun k h w => [(4, .int .i64 h), (5, .int .i64 w), (10, .int .i64 k)]) [(8, _), (9, _)] (fun k h w => []) [] (fun k h w => xs.length - k) (0) (0) (0) (by exact ⟨rfl, rfl, rfl, trivial⟩) (by exact ⟨rfl, rfl, trivial⟩) (by exact trivial) ?_ ?_
  · exact ⟨Nat.zero_le _, fun j hj => absurd hj (Nat.not_lt_zero _), rfl, by omega, by omega, by omega, by omega⟩
  ·intro k h w L1 K1 e1 e2 hI
   dsimp only [apV, apR, List.cons_append, List.nil_append] at e1 e2
   subst e1 e2
   obtain ⟨hk, hi, hs, hw0, hw1, hh0, hh1⟩ := hI
   refine sq ?_
   refine rg ?_
   refine st (h := O) ?_
   refine nl ?_
   refine sq ?_
   refine cD (fun c0 => ?_) (fun c0 => ?_)
   ·have hkl : k < xs.length := by omega
    obtain ⟨vb, vo, rfl, hr⟩ := ha.rd (by omega)
    have q1 : look F ⟨vb, vo + (k : Int).toNat * 1, none⟩ = some (.int .i64 (ints xs k)) := by rw [Nat.mul_one]; exact hr k _ (ints_get hkl)
    refine sk ?_
    refine sq ?_
    refine bl ?_
    refine sq ?_
    refine rg ?_
    refine st (h := (sdX (z := 1))) ?_
    refine st (h := (by first | exact sdLG | exact sdW)) ?_
    refine st (h := O) ?_
    refine nl ?_
    iterate 2 (refine sq ?_)
    refine rg ?_
    refine st (h := O) ?_
    refine cl (h := by exact fun ι hV hl => fIn_C _ _) ?_
    refine st (h := O) ?_
    refine nl ?_
    refine cB (fun c1 => ?_) (fun c1 => ?_)
    ·refine sq ?_
     refine rg ?_
     iterate 2 (refine st (h := O) ?_)
     refine nl ?_
     refine rt ⟨?_, rfl⟩
     rw [sumS_no hkl (by unfold inB; simp at c1; omega)]
    ·have hb : inB (ints xs k) := by unfold inB; simpa using c1
     have hb2 := hb
     unfold inB at hb2
     refine sk ?_
     refine sq ?_
     refine rg ?_
     iterate 2 (refine st (h := O) ?_)
     refine st (h := suShr 20 (v := ints xs k / 1048576) rfl) ?_
     refine st (h := sdA) ?_
     refine st (h := O) ?_
     refine nl ?_
     refine rg ?_
     iterate 2 (refine st (h := O) ?_)
     refine st (h := sbAnd (i64_mask20 _)) ?_
     refine st (h := sdA) ?_
     refine st (h := O) ?_
     refine nl ?_
     refine bk ?_
     refine rg ?_
     refine st (h := sdA) ?_
     refine st (h := O) ?_
     refine nl ?_
     refine bk3 (k + 1) (_) (_) (by exact ⟨rfl, rfl, rfl, trivial⟩) (by exact ⟨rfl, rfl, trivial⟩) (by exact trivial) ?_ ?_
     · omega
     · exact ⟨by omega, inL_s hi hb, by rw [sumL]; omega, by omega, by omega, by omega, by omega⟩
   ·obtain rfl : k = xs.length := by omega
    have hsum : sumS xs = keepS (h * 1048576 + w) := by rw [sumS, if_pos hi, hs]
    refine ex ?_
    refine sq ?_
    refine rg ?_
    iterate 2 (refine st (h := O) ?_)
    refine st (h := suShr 20 (v := w / 1048576) rfl) ?_
    refine st (h := sdA) ?_
    refine st (h := O) ?_
    refine nl ?_
    iterate 2 (refine sq ?_)
    refine rg ?_
    iterate 3 (refine st (h := O) ?_)
    refine gD (fun g32 => ?_) (fun g32 => ?_)
    ·refine sp ?_
     refine sp ?_
     refine st (h := O) ?_
     refine nl ?_
     refine cT ?_
     refine sq ?_
     refine rg ?_
     iterate 2 (refine st (h := O) ?_)
     refine nl ?_
     refine rt ⟨?_, rfl⟩
     rw [hsum, keepS_out (by omega)]
    ·refine sg (h := O) ?_
     refine sg (h := O) ?_
     refine st (h := O) ?_
     refine nl ?_
     refine cD (fun c2 => ?_) (fun c2 => ?_)
     ·refine sq ?_
      refine rg ?_
      iterate 2 (refine st (h := O) ?_)
      refine nl ?_
      refine rt ⟨?_, rfl⟩
      rw [hsum, keepS_out (by omega)]
     ·refine sk ?_
      refine sq ?_
      refine rg ?_
      refine st (h := O) ?_
      refine st (h := siShl 20 (v := (h + w / 1048576) * 1048576) (hv := rfl)) ?_
      refine st (h := O) ?_
      refine st (h := sbAnd (i64_mask20 _)) ?_
      refine st (h := sdA) ?_
      refine cl (h := by exact fun ι hV hl => kept_C _ _ _) ?_
      iterate 4 (refine st (h := O) ?_)
      refine nl ?_
      refine rt ⟨?_, rfl⟩
      rw [hsum, show (h + w / 1048576) * 1048576 + w % 1048576 = h * 1048576 + w from by omega]
      rfl
theorem rSum_C (F : Mem) (a : Option Addr) (c : Nat) (xs : List Int) (ha : RIx F a xs) (hl : xs.length ≤ 1048576) : C0 Try.prog 65 [.slice a xs.length c] F (.tuple #[.int .i64 (sumS xs).1, .bool (sumS xs).2]) := by
  refine C.go hT Try.func65 Try.ntmps65 ?_
  refine sq ?_
  refine rg ?_
  iterate 2 (refine st (h := O) ?_)
  refine nl ?_
  refine sq ?_
  refine rg ?_
  refine st (h := O) ?_
  refine nl ?_
  iterate 2 (refine sq ?_)
  refine rg ?_
  refine st (h := O) ?_
  refine nl ?_
  refine bl ?_
  refine J.loop1 (α := Nat) (fun k => k ≤ xs.length ∧ inL xs k) (fun k => [(4, .int .i64 (sumL xs k)), (5, .int .i64 k)]) [(0, _)] (fun k => []) [] (fun k => xs.length - k) (0) (by exact ⟨rfl, rfl, trivial⟩) (by exact ⟨rfl, trivial⟩) (by exact trivial) ?_ ?_
  · exact ⟨Nat.zero_le _, fun j hj => absurd hj (Nat.not_lt_zero _)⟩
  ·intro k L1 K1 e1 e2 hI
   dsimp only [apV, apR, List.cons_append, List.nil_append] at e1 e2
   subst e1 e2
   obtain ⟨hk, hi⟩ := hI
   have hbd := sumL_bd k hi
   iterate 2 (refine sq ?_)
   refine rg ?_
   iterate 4 (refine st (h := O) ?_)
   refine nl ?_
   refine cD (fun c0 => ?_) (fun c0 => ?_)
   ·have hkl : k < xs.length := by omega
    obtain ⟨vb, vo, rfl, hr⟩ := ha.rd (by omega)
    have q1 : look F ⟨vb, vo + (k : Int).toNat * 1, none⟩ = some (.int .i64 (ints xs k)) := by rw [Nat.mul_one]; exact hr k _ (ints_get hkl)
    refine sk ?_
    refine sq ?_
    refine bl ?_
    iterate 2 (refine sq ?_)
    refine rg ?_
    iterate 2 (refine st (h := O) ?_)
    refine st (h := (sdX (z := 1))) ?_
    refine st (h := (by first | exact sdLG | exact sdW)) ?_
    refine cl (h := by exact fun ι hV hl => r01In_C _ _) ?_
    refine st (h := O) ?_
    refine nl ?_
    refine cB (fun c1 => ?_) (fun c1 => ?_)
    ·refine sq ?_
     refine rg ?_
     iterate 2 (refine st (h := O) ?_)
     refine nl ?_
     refine rt ⟨?_, rfl⟩
     rw [sumS_no hkl (by unfold inB; simp at c1; omega)]
    ·have hb : inB (ints xs k) := by unfold inB; simpa using c1
     have hb2 := hb
     unfold inB at hb2
     refine sk ?_
     refine rg ?_
     iterate 3 (refine st (h := O) ?_)
     refine st (h := (sdX (z := 1))) ?_
     refine st (h := (by first | exact sdLG | exact sdW)) ?_
     refine st (h := sdA) ?_
     refine st (h := O) ?_
     refine nl ?_
     refine bk ?_
     refine rg ?_
     refine st (h := O) ?_
     refine st (h := sdA) ?_
     refine st (h := O) ?_
     refine nl ?_
     refine bk1 (k + 1) (by exact ⟨rfl, rfl, trivial⟩) (by exact ⟨rfl, trivial⟩) (by exact trivial) ?_ ?_
     · omega
     · exact ⟨by omega, inL_s hi hb⟩
   ·obtain rfl : k = xs.length := by omega
    refine ex ?_
    refine sq ?_
    refine rg ?_
    refine st (h := O) ?_
    refine cl (h := by exact fun ι hV hl => told_C _ _) ?_
    iterate 4 (refine st (h := O) ?_)
    refine nl ?_
    refine rt ⟨?_, rfl⟩
    rw [sumS, if_pos hi]
theorem Rd.ixq {G : Mem} {Y : List (Nat × Row)} (h : Rd G Y) {b : Nat} {ι : Nat → Nat} {r : Row} {xs : List Int} (hm : (b, r.r ι) ∈ Y) (hcs : r.cs = Am.ivs xs) (hl : xs.length ≤ 9223372036854775807) : RIx G (some ⟨b, 0, none⟩) xs := by
  refine ⟨.inr (.inl ⟨_, _, rfl⟩), hl, fun _ => ⟨_, _, rfl, fun i x hx => ?_⟩⟩
  rcases Rd.ivs (c := 0) h hm hcs hl with ⟨b', off, c, e, _, h3⟩ | ⟨e, _⟩
  · simp only [Value.slice.injEq, Option.some.injEq, Addr.mk.injEq] at e
    obtain ⟨⟨rfl, rfl, _⟩, _⟩ := e
    exact h3 i x hx
  · simp at e
/-- what falls to the first ones -/
def flS (t : Int) (xs : List Int) (k : Nat) : Int := (floorS t (sumL xs k) (sumS xs).1).1
theorem flS_0 (t : Int) (xs : List Int) : flS t xs 0 = 0 := by
  unfold flS floorS
  split
  · rfl
  · rw [sumL, Int.mul_zero, Int.zero_ediv]; rfl
theorem flS_bd (t : Int) (xs : List Int) (k : Nat) : -1099511627776 ≤ flS t xs k ∧ flS t xs k ≤ 1099511627776 := by
  unfold flS floorS
  split
  · exact ⟨by decide, by decide⟩
  · exact keepS_bd _
def posL (xs : List Int) (k : Nat) : Prop := ∀ j < k, 0 ≤ ints xs j
instance (xs : List Int) (k : Nat) : Decidable (posL xs k) := by unfold posL; infer_instance
theorem posL_s {xs : List Int} {k : Nat} (h : posL xs k) (hb : 0 ≤ ints xs k) : posL xs (k + 1) := fun j hj => by
  rcases Nat.lt_or_ge j k with h' | h'
  · exact h j h'
  · obtain rfl : j = k := by omega
    exact hb
def sharB (t : Int) (xs : List Int) : Prop := (sumS xs).2 = true ∧ (sumS xs).1 ≠ 0 ∧ inB t ∧ posL xs xs.length
instance (t : Int) (xs : List Int) : Decidable (sharB t xs) := by unfold sharB; infer_instance
def shares (t : Int) (xs : List Int) (k : Nat) : List Int := (List.range k).map fun j => flS t xs (j + 1) - flS t xs j
/-- the shares, or none -/
def sharD (t : Int) (xs : List Int) : Option (List Int) := if sharB t xs then some (shares t xs xs.length) else none
def RedSh (o : Option (List Int)) (u : Value) (Y : List (Nat × Row)) : Prop := match o with
  | none => u = .tuple #[.slice none 0 0, .bool false]
  | some ys => ∃ a c, u = .tuple #[.slice a ys.length c, .bool true] ∧ ∀ G, Rd G Y → RIx G a ys
theorem RedSh.no {o : Option (List Int)} {Y : List (Nat × Row)} (h : o = none) : RedSh o (.tuple #[.slice none 0 0, .bool false]) Y := by subst h; rfl
theorem sumS_in {xs : List Int} (h : (sumS xs).2 = true) : inL xs xs.length := by
  unfold sumS at h
  split at h
  · assumption
  · cases h
theorem sumS_1 {xs : List Int} (h : (sumS xs).2 = true) : (sumS xs).1 = sumL xs xs.length := by
  unfold sumS keepS at h ⊢
  split
  · rename_i h1
    rw [if_pos h1] at h
    split
    · rfl
    · rename_i h2; rw [if_neg h2] at h; cases h
  · rename_i h1; rw [if_neg h1] at h; cases h
theorem sumL_pre {xs : List Int} {k n : Nat} (hk : k ≤ n) (h : inL xs n) : inL xs k := fun j hj => h j (by omega)
theorem shares_len (t : Int) (xs : List Int) (k : Nat) : (shares t xs k).length = k := by simp [shares]
theorem shares_s (t : Int) (xs : List Int) (k : Nat) : ivs (shares t xs (k + 1)) = ivs (shares t xs k) ++ [.int .i64 (flS t xs (k + 1) - flS t xs k)] := by
  rw [shares, List.range_succ, List.map_append, ivs_append]
  rfl
theorem fShare_C (F : Mem) (t : Int) (a : Option Addr) (c : Nat) (xs : List Int) (ht : i64ok t) (ha : RIx F a xs) (hn : xs.length ≤ 1048576) : C Try.prog 49 [.int .i64 t, .slice a xs.length c] F (RedSh (sharD t xs)) := by
  have hp := ha.pl
  refine C.go hT Try.func49 Try.ntmps49 ?_
  refine sq ?_
  refine rg ?_
  iterate 2 (refine st (h := O) ?_)
  refine nl ?_
  refine sq ?_
  refine rg ?_
  refine st (h := O) ?_
  refine cl (h := by exact fun ι hV hl => (fSum_C _ a c xs (ha.le hl) hn).ofR (arg1 (hp.rV ι _ _))) ?_
  iterate 5 (refine st (h := O) ?_)
  refine nl ?_
  iterate 2 (refine sq ?_)
  refine rg ?_
  iterate 3 (refine st (h := O) ?_)
  refine gB (fun g24 => ?_) (fun g24 => ?_)
  ·refine sp ?_
   refine sp ?_
   iterate 2 (refine st (h := O) ?_)
   iterate 3 (refine sp ?_)
   refine st (h := O) ?_
   refine nl ?_
   refine cT ?_
   refine sq ?_
   refine rg ?_
   iterate 2 (refine st (h := O) ?_)
   refine nl ?_
   exact rt (RedSh.no (if_neg fun h => by rw [h.1] at g24; cases g24))
  ·refine sg (h := O) ?_
   refine sg (h := O) ?_
   iterate 2 (refine st (h := O) ?_)
   refine gD (fun g28 => ?_) (fun g28 => ?_)
   ·refine sp ?_
    iterate 2 (refine sp ?_)
    refine st (h := O) ?_
    refine nl ?_
    refine cT ?_
    refine sq ?_
    refine rg ?_
    iterate 2 (refine st (h := O) ?_)
    refine nl ?_
    exact rt (RedSh.no (if_neg fun h => h.2.1 g28))
   ·refine sg (h := O) ?_
    refine clg (h := by exact fun ι hV hl => fIn_C _ _) ?_
    refine sg (h := O) ?_
    refine st (h := O) ?_
    refine nl ?_
    refine cB (fun c0 => ?_) (fun c0 => ?_)
    ·refine sq ?_
     refine rg ?_
     iterate 2 (refine st (h := O) ?_)
     refine nl ?_
     exact rt (RedSh.no (if_neg fun h => by have := h.2.2.1; unfold inB at this; simp at c0; omega))
    ·have hB : inB t := by unfold inB; simpa using c0
     have hs2 : (sumS xs).2 = true := by simpa using g24
     have hin := sumS_in hs2
     have hall := sumS_1 hs2
     have hn0 : 0 < xs.length := by
       rcases Nat.eq_zero_or_pos xs.length with h | h
       · rw [h] at hall
         exact absurd hall g28
       · exact h
     have hbn := sumL_bd _ hin
     have hal : i64ok (sumS xs).1 := by rw [hall]; unfold i64ok; omega
     refine sk ?_
     iterate 2 (refine sq ?_)
     refine rg ?_
     iterate 3 (refine st (h := O) ?_)
     refine nl ?_
     refine bl ?_
     refine J.loop1 (α := Nat) (fun k => k ≤ xs.length ∧ posL xs k) (fun k => [(35, .int .i64 k)]) [(0, _), (1, _), (6, _), (33, _), (34, _)] (fun k => []) [] (fun k => xs.length - k) (0) (by exact ⟨rfl, trivial⟩) (by exact ⟨rfl, rfl, rfl, rfl, rfl, trivial⟩) (by exact trivial) ?_ ?_
     · exact ⟨Nat.zero_le _, fun j hj => absurd hj (Nat.not_lt_zero _)⟩
     ·intro k L1 K1 e1 e2 hI
      dsimp only [apV, apR, List.cons_append, List.nil_append] at e1 e2
      subst e1 e2
      obtain ⟨hk, hi⟩ := hI
      refine sq ?_
      refine rg ?_
      refine st (h := O) ?_
      refine nl ?_
      refine sq ?_
      refine cD (fun c1 => ?_) (fun c1 => ?_)
      ·have hkl : k < xs.length := by omega
       obtain ⟨vb, vo, rfl, hr⟩ := ha.rd (by omega)
       have q1 : look F ⟨vb, vo + (k : Int).toNat * 1, none⟩ = some (.int .i64 (ints xs k)) := by rw [Nat.mul_one]; exact hr k _ (ints_get hkl)
       refine sk ?_
       refine sq ?_
       refine bl ?_
       refine sq ?_
       refine rg ?_
       refine st (h := (sdX (z := 1))) ?_
       refine st (h := (by first | exact sdLG | exact sdW)) ?_
       refine st (h := O) ?_
       refine nl ?_
       refine sq ?_
       refine rg ?_
       iterate 2 (refine st (h := O) ?_)
       refine nl ?_
       refine cD (fun c2 => ?_) (fun c2 => ?_)
       ·refine sq ?_
        refine rg ?_
        iterate 2 (refine st (h := O) ?_)
        refine nl ?_
        exact rt (RedSh.no (if_neg fun h => by have := h.2.2.2 k hkl; omega))
       ·refine sk ?_
        refine bk ?_
        refine rg ?_
        refine st (h := sdA) ?_
        refine st (h := O) ?_
        refine nl ?_
        refine bk1 (k + 1) (by exact ⟨rfl, trivial⟩) (by exact ⟨rfl, rfl, rfl, rfl, rfl, trivial⟩) (by exact trivial) ?_ ?_
        · omega
        · exact ⟨by omega, posL_s hi (by omega)⟩
      ·obtain rfl : k = xs.length := by omega
       have hok : sharD t xs = some (shares t xs xs.length) := if_pos ⟨hs2, g28, hB, hi⟩
       refine ex ?_
       refine sq ?_
       refine rg ?_
       refine st (h := O) ?_
       refine nl ?_
       refine sq ?_
       refine rg ?_
       iterate 2 (refine st (h := O) ?_)
       refine nl ?_
       iterate 2 (refine sq ?_)
       refine rg ?_
       iterate 3 (refine st (h := O) ?_)
       refine nl ?_
       refine bl ?_
       refine J.loop5 (α := Option Nat) (β := Nat) (γ := Nat) (δ := List Value) (ε := Int) (fun o m k ca gv => k ≤ xs.length ∧ m = k ∧ apB o m ∧ ca = ivs (shares t xs k) ∧ gv = flS t xs k) (fun o m k ca gv => [(10, apV 500002 o m), (11, .int .i64 (sumL xs k)), (12, .int .i64 gv), (44, .int .i64 k)]) [(0, _), (6, _), (42, _), (43, _)] (fun o m k ca gv => apR 500002 3 1 true o ca ++ []) [] (fun o m k ca gv => xs.length - k) (none) (0) (0) ([]) (0) (by exact ⟨rfl, rfl, rfl, rfl, trivial⟩) (by exact ⟨rfl, rfl, rfl, rfl, trivial⟩) (by exact (by repeat' first | exact trivial | refine And.intro rfl ?_)) ?_ ?_
       · exact ⟨Nat.zero_le _, rfl, rfl, rfl, (flS_0 t xs).symm⟩
       ·intro o m k ca gv L1 K1 e1 e2 hI
        rcases o with _ | cap_o
        all_goals
         dsimp only [apV, apR, List.cons_append, List.nil_append] at e1 e2
         subst e1 e2
         obtain ⟨hk, hm, hap, hca, hgv⟩ := hI
         simp only [apB] at hap
         refine sq ?_
         refine rg ?_
         refine st (h := O) ?_
         refine nl ?_
         refine sq ?_
         refine cD (fun c3 => ?_) (fun c3 => ?_)
         ·have hkl : k < xs.length := by omega
          have hcl : ca.length = k := by rw [hca, ivs_length, shares_len]
          obtain ⟨vb, vo, rfl, hr⟩ := ha.rd (by omega)
          have q1 : look F ⟨vb, vo + (k : Int).toNat * 1, none⟩ = some (.int .i64 (ints xs k)) := by rw [Nat.mul_one]; exact hr k _ (ints_get hkl)
          have hb1 := sumL_bd k (sumL_pre (by omega) hin)
          have hb2 := sumL_bd (k + 1) (sumL_pre (by omega) hin)
          have hb3 := hin k hkl
          unfold inB at hb3
          have hb4 := flS_bd t xs (k + 1)
          have hb5 := flS_bd t xs k
          rw [← hgv] at hb5
          unfold flS at hb4
          refine sk ?_
          refine sq ?_
          refine bl ?_
          refine sq ?_
          refine rg ?_
          refine st (h := (sdX (z := 1))) ?_
          refine st (h := (by first | exact sdLG | exact sdW)) ?_
          refine st (h := O) ?_
          refine nl ?_
          refine sq ?_
          refine rg ?_
          iterate 2 (refine st (h := O) ?_)
          refine st (h := sdA) ?_
          refine st (h := O) ?_
          refine nl ?_
          refine sq ?_
          refine rg ?_
          iterate 3 (refine st (h := O) ?_)
          refine cl (h := by exact fun ι hV hl => Floor_C _ t (sumL xs (k + 1)) (sumS xs).1 ht (by unfold i64ok; omega) hal) ?_
          iterate 5 (refine st (h := O) ?_)
          refine nl ?_
          refine sq ?_
          refine rg ?_
          iterate 3 (refine st (h := O) ?_)
          refine st (h := sdS) ?_
          refine sl ?_
          first | refine apN (news := [_]) 500002 true [(0, _), (6, _), (11, _), (15, _), (42, _), (43, _), (44, _)] [] ?_ | refine apO (news := [_]) 501002 500002 [(0, _), (6, _), (11, _), (15, _), (42, _), (43, _), (44, _)] [] ?_
          intro cap63 hc63 hd63
          refine st (h := O) ?_
          refine nl ?_
          refine rg ?_
          iterate 2 (refine st (h := O) ?_)
          refine nl ?_
          refine bk ?_
          refine rg ?_
          refine st (h := sdA) ?_
          refine st (h := O) ?_
          refine nl ?_
          refine bk5 (some _) (_) (k + 1) (_) (_) (by exact ⟨rfl, rfl, rfl, rfl, trivial⟩) (by exact ⟨rfl, rfl, rfl, rfl, trivial⟩) (by exact (by repeat' first | exact trivial | refine And.intro rfl ?_)) ?_ ?_
          · omega
          · refine ⟨by omega, by omega, by unfold apB; omega, ?_, rfl⟩
            rw [shares_s, ← hca, ← hgv]
            first
              | rfl
              | (rw [show ca = [] from List.eq_nil_of_length_eq_zero (by omega)]; rfl)
         ·try (exfalso; omega)
          all_goals
            obtain rfl : k = xs.length := by omega
            subst hm
            refine ex ?_
            refine sq ?_
            refine rg ?_
            iterate 3 (refine st (h := O) ?_)
            refine nl ?_
            refine rtX fun ι hV => ?_
            rw [hok]
            refine ⟨some ⟨ι 500002, 0, none⟩, cap_o, by rw [shares_len]; rfl, fun G hG => ?_⟩
            exact hG.ixq (List.mem_map.2 ⟨_, List.mem_cons_self, rfl⟩) hca (by rw [shares_len]; omega)
theorem rShare_C (F : Mem) (t : Int) (a : Option Addr) (c : Nat) (xs : List Int) (ht : i64ok t) (ha : RIx F a xs) (hn : xs.length ≤ 1048576) : C Try.prog 54 [.int .i64 t, .slice a xs.length c] F (RedSh (sharD t xs)) := by
  have hp := ha.pl
  refine C.go hT Try.func54 Try.ntmps54 ?_
  refine sq ?_
  refine rg ?_
  iterate 2 (refine st (h := O) ?_)
  refine nl ?_
  refine sq ?_
  refine rg ?_
  refine st (h := O) ?_
  refine cl (h := by exact fun ι hV hl => (rSum_C _ a c xs (ha.le hl) hn).ofR (arg1 (hp.rV ι _ _))) ?_
  iterate 5 (refine st (h := O) ?_)
  refine nl ?_
  iterate 2 (refine sq ?_)
  refine rg ?_
  iterate 3 (refine st (h := O) ?_)
  refine gB (fun g22 => ?_) (fun g22 => ?_)
  ·refine sp ?_
   refine sp ?_
   iterate 2 (refine st (h := O) ?_)
   iterate 3 (refine sp ?_)
   refine st (h := O) ?_
   refine nl ?_
   refine cT ?_
   refine sq ?_
   refine rg ?_
   iterate 2 (refine st (h := O) ?_)
   refine nl ?_
   exact rt (RedSh.no (if_neg fun h => by rw [h.1] at g22; cases g22))
  ·refine sg (h := O) ?_
   refine sg (h := O) ?_
   iterate 2 (refine st (h := O) ?_)
   refine gD (fun g26 => ?_) (fun g26 => ?_)
   ·refine sp ?_
    iterate 2 (refine sp ?_)
    refine st (h := O) ?_
    refine nl ?_
    refine cT ?_
    refine sq ?_
    refine rg ?_
    iterate 2 (refine st (h := O) ?_)
    refine nl ?_
    exact rt (RedSh.no (if_neg fun h => h.2.1 g26))
   ·refine sg (h := O) ?_
    refine clg (h := by exact fun ι hV hl => r01In_C _ _) ?_
    refine sg (h := O) ?_
    refine st (h := O) ?_
    refine nl ?_
    refine cB (fun c0 => ?_) (fun c0 => ?_)
    ·refine sq ?_
     refine rg ?_
     iterate 2 (refine st (h := O) ?_)
     refine nl ?_
     exact rt (RedSh.no (if_neg fun h => by have := h.2.2.1; unfold inB at this; simp at c0; omega))
    ·have hB : inB t := by unfold inB; simpa using c0
     have hs2 : (sumS xs).2 = true := by simpa using g22
     have hin := sumS_in hs2
     have hall := sumS_1 hs2
     have hn0 : 0 < xs.length := by
       rcases Nat.eq_zero_or_pos xs.length with h | h
       · rw [h] at hall
         exact absurd hall g26
       · exact h
     have hbn := sumL_bd _ hin
     have hal : i64ok (sumS xs).1 := by rw [hall]; unfold i64ok; omega
     refine sk ?_
     iterate 2 (refine sq ?_)
     refine rg ?_
     refine st (h := O) ?_
     refine nl ?_
     refine bl ?_
     refine J.loop1 (α := Nat) (fun k => k ≤ xs.length ∧ posL xs k) (fun k => [(8, .int .i64 k)]) [(0, _), (1, _), (6, _)] (fun k => []) [] (fun k => xs.length - k) (0) (by exact ⟨rfl, trivial⟩) (by exact ⟨rfl, rfl, rfl, trivial⟩) (by exact trivial) ?_ ?_
     · exact ⟨Nat.zero_le _, fun j hj => absurd hj (Nat.not_lt_zero _)⟩
     ·intro k L1 K1 e1 e2 hI
      dsimp only [apV, apR, List.cons_append, List.nil_append] at e1 e2
      subst e1 e2
      obtain ⟨hk, hi⟩ := hI
      iterate 2 (refine sq ?_)
      refine rg ?_
      iterate 4 (refine st (h := O) ?_)
      refine nl ?_
      refine cD (fun c1 => ?_) (fun c1 => ?_)
      ·have hkl : k < xs.length := by omega
       obtain ⟨vb, vo, rfl, hr⟩ := ha.rd (by omega)
       have q1 : look F ⟨vb, vo + (k : Int).toNat * 1, none⟩ = some (.int .i64 (ints xs k)) := by rw [Nat.mul_one]; exact hr k _ (ints_get hkl)
       refine sk ?_
       refine sq ?_
       refine bl ?_
       refine sq ?_
       refine rg ?_
       iterate 2 (refine st (h := O) ?_)
       refine st (h := (sdX (z := 1))) ?_
       refine st (h := (by first | exact sdLG | exact sdW)) ?_
       refine st (h := O) ?_
       refine nl ?_
       refine cD (fun c2 => ?_) (fun c2 => ?_)
       ·refine sq ?_
        refine rg ?_
        iterate 2 (refine st (h := O) ?_)
        refine nl ?_
        exact rt (RedSh.no (if_neg fun h => by have := h.2.2.2 k hkl; omega))
       ·refine sk ?_
        refine bk ?_
        refine rg ?_
        refine st (h := O) ?_
        refine st (h := sdA) ?_
        refine st (h := O) ?_
        refine nl ?_
        refine bk1 (k + 1) (by exact ⟨rfl, trivial⟩) (by exact ⟨rfl, rfl, rfl, trivial⟩) (by exact trivial) ?_ ?_
        · omega
        · exact ⟨by omega, posL_s hi (by omega)⟩
      ·obtain rfl : k = xs.length := by omega
       have hok : sharD t xs = some (shares t xs xs.length) := if_pos ⟨hs2, g26, hB, hi⟩
       refine ex ?_
       refine sq ?_
       refine rg ?_
       refine st (h := O) ?_
       refine nl ?_
       refine sq ?_
       refine rg ?_
       iterate 2 (refine st (h := O) ?_)
       refine nl ?_
       iterate 2 (refine sq ?_)
       refine rg ?_
       refine st (h := O) ?_
       refine nl ?_
       refine bl ?_
       refine J.loop5 (α := Option Nat) (β := Nat) (γ := Nat) (δ := List Value) (ε := Int) (fun o m k ca gv => k ≤ xs.length ∧ m = k ∧ apB o m ∧ ca = ivs (shares t xs k) ∧ gv = flS t xs k) (fun o m k ca gv => [(9, apV 500002 o m), (10, .int .i64 (sumL xs k)), (11, .int .i64 gv), (12, .int .i64 k)]) [(0, _), (1, _), (6, _)] (fun o m k ca gv => apR 500002 3 1 true o ca ++ []) [] (fun o m k ca gv => xs.length - k) (none) (0) (0) ([]) (0) (by exact ⟨rfl, rfl, rfl, rfl, trivial⟩) (by exact ⟨rfl, rfl, rfl, trivial⟩) (by exact (by repeat' first | exact trivial | refine And.intro rfl ?_)) ?_ ?_
       · exact ⟨Nat.zero_le _, rfl, rfl, rfl, (flS_0 t xs).symm⟩
       ·intro o m k ca gv L1 K1 e1 e2 hI
        rcases o with _ | cap_o
        all_goals
         dsimp only [apV, apR, List.cons_append, List.nil_append] at e1 e2
         subst e1 e2
         obtain ⟨hk, hm, hap, hca, hgv⟩ := hI
         simp only [apB] at hap
         iterate 2 (refine sq ?_)
         refine rg ?_
         iterate 4 (refine st (h := O) ?_)
         refine nl ?_
         refine cD (fun c3 => ?_) (fun c3 => ?_)
         ·have hkl : k < xs.length := by omega
          have hcl : ca.length = k := by rw [hca, ivs_length, shares_len]
          obtain ⟨vb, vo, rfl, hr⟩ := ha.rd (by omega)
          have q1 : look F ⟨vb, vo + (k : Int).toNat * 1, none⟩ = some (.int .i64 (ints xs k)) := by rw [Nat.mul_one]; exact hr k _ (ints_get hkl)
          have hb1 := sumL_bd k (sumL_pre (by omega) hin)
          have hb2 := sumL_bd (k + 1) (sumL_pre (by omega) hin)
          have hb3 := hin k hkl
          unfold inB at hb3
          have hb4 := flS_bd t xs (k + 1)
          have hb5 := flS_bd t xs k
          rw [← hgv] at hb5
          unfold flS at hb4
          refine sk ?_
          refine sq ?_
          refine bl ?_
          refine sq ?_
          refine rg ?_
          iterate 3 (refine st (h := O) ?_)
          refine st (h := (sdX (z := 1))) ?_
          refine st (h := (by first | exact sdLG | exact sdW)) ?_
          refine st (h := sdA) ?_
          refine st (h := O) ?_
          refine nl ?_
          refine sq ?_
          refine rg ?_
          iterate 3 (refine st (h := O) ?_)
          refine cl (h := by exact fun ι hV hl => r01Floor_C _ t (sumL xs (k + 1)) (sumS xs).1 ht (by unfold i64ok; omega) hal) ?_
          iterate 5 (refine st (h := O) ?_)
          refine nl ?_
          refine sq ?_
          refine rg ?_
          iterate 3 (refine st (h := O) ?_)
          refine st (h := sdS) ?_
          refine sl ?_
          first | refine apN (news := [_]) 500002 true [(0, _), (1, _), (6, _), (10, _), (12, _), (13, _)] [] ?_ | refine apO (news := [_]) 501002 500002 [(0, _), (1, _), (6, _), (10, _), (12, _), (13, _)] [] ?_
          intro cap66 hc66 hd66
          refine st (h := O) ?_
          refine nl ?_
          refine rg ?_
          iterate 2 (refine st (h := O) ?_)
          refine nl ?_
          refine bk ?_
          refine rg ?_
          refine st (h := O) ?_
          refine st (h := sdA) ?_
          refine st (h := O) ?_
          refine nl ?_
          refine bk5 (some _) (_) (k + 1) (_) (_) (by exact ⟨rfl, rfl, rfl, rfl, trivial⟩) (by exact ⟨rfl, rfl, rfl, trivial⟩) (by exact (by repeat' first | exact trivial | refine And.intro rfl ?_)) ?_ ?_
          · omega
          · refine ⟨by omega, by omega, by unfold apB; omega, ?_, rfl⟩
            rw [shares_s, ← hca, ← hgv]
            first
              | rfl
              | (rw [show ca = [] from List.eq_nil_of_length_eq_zero (by omega)]; rfl)
         ·try (exfalso; omega)
          all_goals
            obtain rfl : k = xs.length := by omega
            subst hm
            refine ex ?_
            refine sq ?_
            refine rg ?_
            iterate 3 (refine st (h := O) ?_)
            refine nl ?_
            refine rtX fun ι hV => ?_
            rw [hok]
            refine ⟨some ⟨ι 500002, 0, none⟩, cap_o, by rw [shares_len]; rfl, fun G hG => ?_⟩
            exact hG.ixq (List.mem_map.2 ⟨_, List.mem_cons_self, rfl⟩) hca (by rw [shares_len]; omega)
end Go.Proofs.Ytnkddjdmpnghmaa.Am
namespace Go.Proofs.Ytnkddjdmpnghmaa.Am
set_option linter.unusedSimpArgs false
set_option linter.unusedVariables false
set_option maxRecDepth 100000
set_option maxHeartbeats 4000000
open Go Go.RowKit
/-- what the glue among d items from i on has of something -/
def gluL (f : Item → Int) (l : List Item) (i : Nat) : Nat → List Int
  | 0 => []
  | d + 1 => gluL f l i d ++ (if (at_ l (i + d)).kind = 2 then [f (at_ l (i + d))] else [])
theorem gluL_len (f g : Item → Int) (l : List Item) (i : Nat) : ∀ d, (gluL f l i d).length = (gluL g l i d).length
  | 0 => rfl
  | d + 1 => by
    rw [gluL, gluL, List.length_append, List.length_append, gluL_len f g l i d]
    split <;> rfl
theorem sumL_app (xs ys : List Int) : ∀ k, k ≤ xs.length → sumL (xs ++ ys) k = sumL xs k
  | 0, _ => rfl
  | k + 1, h => by
    rw [sumL, sumL, sumL_app xs ys k (by omega)]
    congr 1
    simp only [ints, List.getD_eq_getElem?_getD]
    rw [List.getElem?_append_left (by omega)]
theorem sumL_snoc (xs : List Int) (x : Int) : sumL (xs ++ [x]) (xs ++ [x]).length = sumL xs xs.length + x := by
  rw [List.length_append, List.length_cons, List.length_nil, sumL, sumL_app _ _ _ (Nat.le_refl _)]
  congr 1
  simp [ints, List.getD_eq_getElem?_getD]
theorem sum_gluY (l : List Item) (i : Nat) : ∀ d, sumL (gluL Item.stretch l i d) (gluL Item.stretch l i d).length = yS l (i + d) - yS l i
  | 0 => by simp [gluL, sumL]
  | d + 1 => by
    have := sum_gluY l i d
    rw [gluL, show i + (d + 1) = i + d + 1 from rfl, yS]
    split
    · rw [sumL_snoc, this]; omega
    · rw [List.append_nil, this]; omega
theorem sum_gluZ (l : List Item) (i : Nat) : ∀ d, sumL (gluL Item.shrink l i d) (gluL Item.shrink l i d).length = zS l (i + d) - zS l i
  | 0 => by simp [gluL, sumL]
  | d + 1 => by
    have := sum_gluZ l i d
    rw [gluL, show i + (d + 1) = i + d + 1 from rfl, zS]
    split
    · rw [sumL_snoc, this]; omega
    · rw [List.append_nil, this]; omega
theorem gluL_mem {f : Item → Int} {l : List Item} {i : Nat} : ∀ {d : Nat} {x : Int}, x ∈ gluL f l i d → ∃ j, i ≤ j ∧ j < i + d ∧ x = f (at_ l j)
  | 0, x, h => by cases h
  | d + 1, x, h => by
    rw [gluL] at h
    rcases List.mem_append.1 h with h | h
    · obtain ⟨j, h1, h2, h3⟩ := gluL_mem h
      exact ⟨j, h1, by omega, h3⟩
    · split at h
      · simp only [List.mem_cons, List.not_mem_nil, or_false] at h
        exact ⟨i + d, by omega, by omega, h⟩
      · cases h
theorem gluL_le (f : Item → Int) (l : List Item) (i : Nat) : ∀ d, (gluL f l i d).length ≤ d
  | 0 => Nat.le_refl _
  | d + 1 => by
    have := gluL_le f l i d
    rw [gluL, List.length_append]
    split <;> simp <;> omega
/-- the first ones with the others' share -/
def addTo (xs ys : List Int) (sg : Int) (j : Nat) : List Int := (List.range xs.length).map fun i => if i < j then ints xs i + sg * ints ys i else ints xs i
theorem addTo_len (xs ys : List Int) (sg : Int) (j : Nat) : (addTo xs ys sg j).length = xs.length := by simp [addTo]
theorem addTo_0 (xs ys : List Int) (sg : Int) : addTo xs ys sg 0 = xs := by
  apply List.ext_getElem
  · simp [addTo]
  · intro i h1 h2
    have := ints_get h2
    rw [List.getElem?_eq_getElem h2, Option.some.injEq] at this
    simp [addTo, this]
theorem addTo_get (xs ys : List Int) (sg : Int) {j : Nat} (h : j < xs.length) : (ivs (addTo xs ys sg j))[j]? = some (.int .i64 (ints xs j)) := by
  have h2 : j < (addTo xs ys sg j).length := by rw [addTo_len]; exact h
  have := ivs_get (List.getElem?_eq_getElem h2)
  rw [this]
  simp [addTo]
theorem addTo_put (xs ys : List Int) (sg : Int) {j : Nat} (h : j < xs.length) : putL (ivs (addTo xs ys sg j)) j [.int .i64 (ints xs j + sg * ints ys j)] = ivs (addTo xs ys sg (j + 1)) := by
  show (ivs (addTo xs ys sg j)).set j _ = _
  apply List.ext_getElem
  · rw [List.length_set, ivs_length, ivs_length, addTo_len, addTo_len]
  · intro i h1 h2
    rw [ivs_length, addTo_len] at h2
    rw [List.getElem_set]
    split
    · rename_i e
      subst e
      simp [ivs, addTo]
    · rename_i e
      simp only [ivs, addTo, List.getElem_map, List.getElem_range]
      have : (i < j + 1) = (i < j) := propext (by omega)
      simp [this]
/-- the weights of a line's glue, and the glue -/
def glW (l : List Item) (a1 b : Nat) : List Int := gluL Item.width l (fromA l a1 b) (b - fromA l a1 b)
def glY (l : List Item) (a1 b : Nat) : List Int := gluL Item.stretch l (fromA l a1 b) (b - fromA l a1 b)
def glZ (l : List Item) (a1 b : Nat) : List Int := gluL Item.shrink l (fromA l a1 b) (b - fromA l a1 b)
def giveD (ws : List Int) (o : Option (List Int)) (sg : Int) : List Int := match o with
  | none => ws
  | some s => addTo ws s sg ws.length
def freeD (l : List Item) (a1 b : Nat) (width : Int) : Int := width - mW l a1 b
def glueD (l : List Item) (a1 b : Nat) (width align : Int) : List Int × Bool :=
  if 0 < freeD l a1 b width ∧ align = 0 ∧ 0 < mY l a1 b then (giveD (glW l a1 b) (sharD (freeD l a1 b width) (glY l a1 b)) 1, false)
  else if freeD l a1 b width < 0 then (giveD (glW l a1 b) (sharD (min (-freeD l a1 b width) (mZ l a1 b)) (glZ l a1 b)) (-1), decide (mZ l a1 b < -freeD l a1 b width))
  else (glW l a1 b, false)
theorem fromA_le (l : List Item) (a1 b : Nat) : fromA l a1 b ≤ b := Nat.min_le_right _ _
theorem glY_sum (l : List Item) (a1 b : Nat) : sumL (glY l a1 b) (glY l a1 b).length = mY l a1 b := by
  rw [glY, sum_gluY, mY, Nat.add_sub_cancel' (fromA_le l a1 b)]
theorem glZ_sum (l : List Item) (a1 b : Nat) : sumL (glZ l a1 b) (glZ l a1 b).length = mZ l a1 b := by
  rw [glZ, sum_gluZ, mZ, Nat.add_sub_cancel' (fromA_le l a1 b)]
theorem gl_mem_ok {f : Item → Int} {l : List Item} {i d : Nat} (hg : goodL l = true) (h : i + d ≤ l.length) (hf : ∀ x : Item, x.ok = true → 0 ≤ f x ∧ f x ≤ 1073741824) : ∀ x ∈ gluL f l i d, 0 ≤ x ∧ x ≤ 1073741824 := by
  intro x hx
  obtain ⟨j, h1, h2, rfl⟩ := gluL_mem hx
  exact hf _ (good_ok hg (by omega))
theorem gl_sum {xs : List Int} (h : ∀ x ∈ xs, 0 ≤ x ∧ x ≤ 1073741824) : ∀ k, k ≤ xs.length → 0 ≤ sumL xs k ∧ sumL xs k ≤ k * 1073741824
  | 0, _ => by simp [sumL]
  | k + 1, hk => by
    have h1 := gl_sum h k (by omega)
    have h2 := h _ (List.mem_of_getElem? (ints_get (xs := xs) (i := k) (by omega)))
    rw [sumL]; omega
theorem gl_sumS {xs : List Int} (h : ∀ x ∈ xs, 0 ≤ x ∧ x ≤ 1073741824) (hl : xs.length ≤ 1024) : sumS xs = (sumL xs xs.length, true) := by
  have h1 := gl_sum h _ (Nat.le_refl _)
  rw [sumS, if_pos]
  · rw [keepS, if_pos (by omega)]
  · intro j hj
    have := h _ (List.mem_of_getElem? (ints_get hj))
    unfold inB; omega
theorem gl_share {xs : List Int} {t : Int} (h : ∀ x ∈ xs, 0 ≤ x ∧ x ≤ 1073741824) (hl : xs.length ≤ 1024) (ht : inB t) (h0 : sumL xs xs.length ≠ 0) : sharD t xs = some (shares t xs xs.length) := by
  have e := gl_sumS h hl
  refine if_pos ⟨by rw [e], by rw [e]; exact h0, ht, fun j hj => (h _ (List.mem_of_getElem? (ints_get hj))).1⟩
theorem gl_noshare {xs : List Int} {t : Int} (h : ∀ x ∈ xs, 0 ≤ x ∧ x ≤ 1073741824) (hl : xs.length ≤ 1024) (h0 : sumL xs xs.length = 0) : sharD t xs = none := by
  have e := gl_sumS h hl
  exact if_neg fun g => g.2.1 (by rw [e]; exact h0)
theorem sumL_mono {xs : List Int} (h : ∀ x ∈ xs, 0 ≤ x ∧ x ≤ 1073741824) {j : Nat} : ∀ k, j ≤ k → k ≤ xs.length → sumL xs j ≤ sumL xs k
  | 0, hj, _ => by rw [Nat.le_zero.1 hj]; exact Int.le_refl _
  | k + 1, hj, hk => by
    rcases Nat.lt_or_ge j (k + 1) with h' | h'
    · have h1 := sumL_mono h (j := j) k (by omega) (by omega)
      have h2 := h _ (List.mem_of_getElem? (ints_get (xs := xs) (i := k) (by omega)))
      rw [sumL]; omega
    · obtain rfl : j = k + 1 := by omega
      exact Int.le_refl _
/-- all that is there, shared out, is what is there -/
theorem shares_all {xs : List Int} (h : ∀ x ∈ xs, 0 ≤ x ∧ x ≤ 1073741824) (hl : xs.length ≤ 1024) (h0 : sumL xs xs.length ≠ 0) : shares (sumL xs xs.length) xs xs.length = xs := by
  have e := gl_sumS h hl
  have hb := gl_sum h _ (Nat.le_refl _)
  have hf : ∀ k, k ≤ xs.length → flS (sumL xs xs.length) xs k = sumL xs k := fun k hk => by
    have h1 := gl_sum h k hk
    have h2 := sumL_mono h (j := k) xs.length hk (Nat.le_refl _)
    rw [flS, e]
    dsimp only
    rw [floorS, if_neg (by omega), Int.mul_ediv_cancel_left _ h0, keepS, if_pos (by omega)]
  apply List.ext_getElem
  · rw [shares_len]
  · intro i h1 h2
    have := ints_get h2
    rw [List.getElem?_eq_getElem h2, Option.some.injEq] at this
    simp only [shares, List.getElem_map, List.getElem_range]
    rw [hf _ (by omega), hf _ (by omega), sumL, this]
    omega
theorem sum0 {xs : List Int} (h : ∀ x ∈ xs, 0 ≤ x ∧ x ≤ 1073741824) (h0 : sumL xs xs.length = 0) {j : Nat} (hj : j < xs.length) : ints xs j = 0 := by
  have h1 := sumL_mono h (j := j + 1) xs.length hj (Nat.le_refl _)
  have h2 := gl_sum h j (by omega)
  have h3 := h _ (List.mem_of_getElem? (ints_get hj))
  rw [sumL] at h1
  omega
theorem addTo_zero {xs ys : List Int} {sg : Int} (h : ∀ j < xs.length, ints ys j = 0) (j : Nat) : addTo xs ys sg j = xs := by
  apply List.ext_getElem
  · simp [addTo]
  · intro i h1 h2
    have := ints_get h2
    rw [List.getElem?_eq_getElem h2, Option.some.injEq] at this
    simp only [addTo, List.getElem_map, List.getElem_range, h i h2, Int.mul_zero, Int.add_zero, ite_self, this]
theorem okY (x : Item) (h : x.ok = true) : 0 ≤ x.stretch ∧ x.stretch ≤ 1073741824 := by simp only [Item.ok, decide_eq_true_eq] at h; omega
theorem okZ (x : Item) (h : x.ok = true) : 0 ≤ x.shrink ∧ x.shrink ≤ 1073741824 := by simp only [Item.ok, decide_eq_true_eq] at h; omega
theorem okW (x : Item) (h : x.ok = true) : 0 ≤ x.width ∧ x.width ≤ 1073741824 := by simp only [Item.ok, decide_eq_true_eq] at h; omega
end Go.Proofs.Ytnkddjdmpnghmaa.Am
namespace Go.Proofs.Ytnkddjdmpnghmaa.Am
set_option linter.unusedSimpArgs false
set_option linter.unusedVariables false
set_option maxRecDepth 100000
set_option maxHeartbeats 4000000
open Go Go.RowKit
def mayB (w al : Int) : Bool := decide (1 ≤ w ∧ w ≤ 1073741824 ∧ 0 ≤ al ∧ al ≤ 3)
theorem may_C (F : Mem) (w al : Int) : C0 Try.prog 27 [.int .i64 w, .int .i64 al] F (.bool (mayB w al)) := by
  unfold mayB
  refine C.go hT Try.func27 Try.ntmps27 ?_
  refine sq ?_
  refine rg ?_
  refine st (h := O) ?_
  refine nl ?_
  refine sq ?_
  refine rg ?_
  iterate 3 (refine st (h := O) ?_)
  refine gD (fun g7 => ?_) (fun g7 => ?_)
  ·refine sg (h := O) ?_
   refine sg (h := O) ?_
   iterate 2 (refine st (h := O) ?_)
   refine gD (fun g11 => ?_) (fun g11 => ?_)
   ·refine sg (h := O) ?_
    refine sg (h := O) ?_
    iterate 2 (refine st (h := O) ?_)
    refine gD (fun g15 => ?_) (fun g15 => ?_)
    ·refine sg (h := O) ?_
     refine sg (h := O) ?_
     iterate 2 (refine st (h := O) ?_)
     refine nl ?_
     refine rt ⟨?_, rfl⟩
     simp only [Value.bool.injEq, eq_comm (a := false), decide_eq_true_eq, decide_eq_false_iff_not, decide_eq_decide]; omega
    ·refine sp ?_
     refine sp ?_
     iterate 2 (refine st (h := O) ?_)
     refine nl ?_
     refine rt ⟨?_, rfl⟩
     simp only [Value.bool.injEq, eq_comm (a := false), decide_eq_true_eq, decide_eq_false_iff_not, decide_eq_decide]; omega
   ·refine sp ?_
    refine sp ?_
    iterate 2 (refine st (h := O) ?_)
    iterate 2 (refine sp ?_)
    iterate 2 (refine st (h := O) ?_)
    refine nl ?_
    refine rt ⟨?_, rfl⟩
    simp only [Value.bool.injEq, eq_comm (a := false), decide_eq_true_eq, decide_eq_false_iff_not, decide_eq_decide]; omega
  ·refine sp ?_
   refine sp ?_
   iterate 2 (refine st (h := O) ?_)
   iterate 2 (refine sp ?_)
   iterate 2 (refine st (h := O) ?_)
   iterate 2 (refine sp ?_)
   iterate 2 (refine st (h := O) ?_)
   refine nl ?_
   refine rt ⟨?_, rfl⟩
   simp only [Value.bool.injEq, eq_comm (a := false), decide_eq_true_eq, decide_eq_false_iff_not, decide_eq_decide]; omega
theorem rmay_C (F : Mem) (w al : Int) : C0 Try.prog 31 [.int .i64 w, .int .i64 al] F (.bool (mayB w al)) := by
  unfold mayB
  refine C.go hT Try.func31 Try.ntmps31 ?_
  refine sq ?_
  refine rg ?_
  refine st (h := O) ?_
  refine nl ?_
  refine sq ?_
  refine rg ?_
  iterate 3 (refine st (h := O) ?_)
  refine gD (fun g7 => ?_) (fun g7 => ?_)
  ·refine sg (h := O) ?_
   refine sg (h := O) ?_
   iterate 2 (refine st (h := O) ?_)
   refine gD (fun g11 => ?_) (fun g11 => ?_)
   ·refine sg (h := O) ?_
    refine sg (h := O) ?_
    iterate 2 (refine st (h := O) ?_)
    refine gD (fun g15 => ?_) (fun g15 => ?_)
    ·refine sg (h := O) ?_
     refine sg (h := O) ?_
     iterate 2 (refine st (h := O) ?_)
     refine nl ?_
     refine rt ⟨?_, rfl⟩
     simp only [Value.bool.injEq, eq_comm (a := false), decide_eq_true_eq, decide_eq_false_iff_not, decide_eq_decide]; omega
    ·refine sp ?_
     refine sp ?_
     iterate 2 (refine st (h := O) ?_)
     refine nl ?_
     refine rt ⟨?_, rfl⟩
     simp only [Value.bool.injEq, eq_comm (a := false), decide_eq_true_eq, decide_eq_false_iff_not, decide_eq_decide]; omega
   ·refine sp ?_
    refine sp ?_
    iterate 2 (refine st (h := O) ?_)
    iterate 2 (refine sp ?_)
    iterate 2 (refine st (h := O) ?_)
    refine nl ?_
    refine rt ⟨?_, rfl⟩
    simp only [Value.bool.injEq, eq_comm (a := false), decide_eq_true_eq, decide_eq_false_iff_not, decide_eq_decide]; omega
  ·refine sp ?_
   refine sp ?_
   iterate 2 (refine st (h := O) ?_)
   iterate 2 (refine sp ?_)
   iterate 2 (refine st (h := O) ?_)
   iterate 2 (refine sp ?_)
   iterate 2 (refine st (h := O) ?_)
   refine nl ?_
   refine rt ⟨?_, rfl⟩
   simp only [Value.bool.injEq, eq_comm (a := false), decide_eq_true_eq, decide_eq_false_iff_not, decide_eq_decide]; omega
theorem wS_mono {l : List Item} (hg : goodL l = true) {j : Nat} : ∀ k, j ≤ k → k ≤ l.length → wS l j ≤ wS l k
  | 0, hj, _ => by rw [Nat.le_zero.1 hj]; exact Int.le_refl _
  | k + 1, hj, hk => by
    rcases Nat.lt_or_ge j (k + 1) with h' | h'
    · have h1 := wS_mono hg (j := j) k (by omega) (by omega)
      have h2 := okW _ (good_ok hg (i := k) (by omega))
      rw [wS]
      split <;> omega
    · obtain rfl : j = k + 1 := by omega
      exact Int.le_refl _
theorem mW_bd {l : List Item} (hg : goodL l = true) {a1 b : Nat} (hb : b < l.length) : 0 ≤ mW l a1 b ∧ mW l a1 b ≤ 1125899906842624 := by
  have hlen := good_len hg
  have hfl := fromA_le l a1 b
  have h1 := sums_bd hg b (by omega)
  have h2 := sums_bd hg (fromA l a1 b) (by omega)
  have h3 := okW _ (good_ok hg hb)
  have h4 := wS_mono hg b hfl (by omega)
  unfold mW
  split <;> omega
def sn2 (x : Nat × Nat × Nat) : Nat := x.2.1
def sn3 (x : Nat × Nat × Nat) : Nat := x.2.2
theorem shares_at (t : Int) (xs : List Int) {j k : Nat} (h : j < k) : ints (shares t xs k) j = flS t xs (j + 1) - flS t xs j := by
  have := ints_get (xs := shares t xs k) (i := j) (by rw [shares_len]; exact h)
  rw [shares, List.getElem?_map, List.getElem?_range h] at this
  exact (Option.some.inj this).symm
theorem shares_bd (t : Int) (xs : List Int) {j k : Nat} (h : j < k) : -2199023255552 ≤ ints (shares t xs k) j ∧ ints (shares t xs k) j ≤ 2199023255552 := by
  have h1 := flS_bd t xs (j + 1)
  have h2 := flS_bd t xs j
  rw [shares_at t xs h]; omega
theorem glueD_A {l : List Item} {a1 b : Nat} {w al : Int} {s : List Int} (h1 : 0 < w - mW l a1 b) (h2 : al = 0) (h3 : 0 < mY l a1 b) (hs : sharD (w - mW l a1 b) (glY l a1 b) = some s) : glueD l a1 b w al = (addTo (glW l a1 b) s 1 (glW l a1 b).length, false) := by
  rw [glueD, if_pos ⟨h1, h2, h3⟩, freeD, hs]; rfl
theorem glueD_B {l : List Item} {a1 b : Nat} {w al : Int} {s : List Int} (h1 : w - mW l a1 b < 0) (h2 : -(w - mW l a1 b) ≤ mZ l a1 b) (hs : sharD (-(w - mW l a1 b)) (glZ l a1 b) = some s) : glueD l a1 b w al = (addTo (glW l a1 b) s (-1) (glW l a1 b).length, false) := by
  unfold glueD freeD
  rw [if_neg (fun h => by have := h.1; omega), if_pos h1, Int.min_eq_left h2, hs]
  refine Prod.ext rfl (decide_eq_false ?_)
  omega
theorem glueD_C {l : List Item} {a1 b : Nat} {w al : Int} (oZ : ∀ x ∈ glZ l a1 b, 0 ≤ x ∧ x ≤ 1073741824) (hl : (glZ l a1 b).length ≤ 1024) (hwz : (glW l a1 b).length = (glZ l a1 b).length) (h1 : w - mW l a1 b < 0) (h2 : mZ l a1 b < -(w - mW l a1 b)) : glueD l a1 b w al = (addTo (glW l a1 b) (glZ l a1 b) (-1) (glW l a1 b).length, true) := by
  have eZ := glZ_sum l a1 b
  have bz := gl_sum oZ _ (Nat.le_refl _)
  unfold glueD freeD
  rw [if_neg (fun h => by have := h.1; omega), if_pos h1, Int.min_eq_right (by omega)]
  refine Prod.ext ?_ (decide_eq_true h2)
  dsimp only
  by_cases h0 : mZ l a1 b = 0
  · rw [gl_noshare oZ hl (by rw [eZ]; exact h0)]
    exact (addTo_zero (xs := glW l a1 b) (ys := glZ l a1 b) (fun j hj => sum0 oZ (by rw [eZ]; exact h0) (by omega)) _).symm
  · rw [gl_share oZ hl (by unfold inB; omega) (by rw [eZ]; exact h0), ← eZ, shares_all oZ hl (by rw [eZ]; exact h0)]
    rfl
theorem glueD_D {l : List Item} {a1 b : Nat} {w al : Int} (h : ¬ w - mW l a1 b < 0) (h2 : ¬ (0 < w - mW l a1 b ∧ al = 0 ∧ 0 < mY l a1 b)) : glueD l a1 b w al = (glW l a1 b, false) := by
  unfold glueD freeD
  rw [if_neg h2, if_neg h]
def RedGl (g : List Int × Bool) (u : Value) (Y : List (Nat × Row)) : Prop := ∃ a c, u = .tuple #[.slice a g.1.length c, .bool g.2] ∧ ∀ G, Rd G Y → RIx G a g.1
theorem gluRet {p : Prop} (h : p := by
  try simp only [Option.map_some, Option.map_none, List.cons_append, List.nil_append, List.append_nil] at hV ⊢
  have hl3 : (glZ l a1 b).length ≤ 1024 := by omega
  have hwz : (glW l a1 b).length = (glZ l a1 b).length := by omega
  first
    | (rw [glueD_A (by omega) g83 (by omega) hsh]
       exact ⟨some ⟨ι 500002, 0, none⟩, _, by rw [addTo_len, ← l1]; rfl, fun G hG => hG.ixq (List.mem_map.2 ⟨_, List.mem_cons_self, rfl⟩) (by rw [← l1]; exact hE) (by rw [addTo_len]; omega)⟩)
    | (rw [glueD_B (by omega) (by omega) hsh2]
       exact ⟨some ⟨ι 500002, 0, none⟩, _, by rw [addTo_len, ← l1, decide_eq_false (by omega)]; rfl, fun G hG => hG.ixq (List.mem_map.2 ⟨_, List.mem_cons_self, rfl⟩) (by rw [← l1]; exact hE) (by rw [addTo_len]; omega)⟩)
    | (rw [glueD_D (by omega) (by omega)]
       first
         | exact ⟨some ⟨ι 500002, 0, none⟩, cap_o.1, by show _ = Value.tuple #[.slice _ (glW l a1 b).length _, _]; rw [← l1]; rfl, fun G hG => hG.ixq (List.mem_map.2 ⟨_, List.mem_cons_self, rfl⟩) hS1 (by show (glW l a1 b).length ≤ _; omega)⟩
         | (rw [List.eq_nil_of_length_eq_zero (l := glW l a1 b) (by omega)]
            exact ⟨none, 0, rfl, fun G _ => RIx.none G⟩))
    | (rw [glueD_C oZ hl3 hwz (by omega) (by omega)]
       first
         | exact ⟨some ⟨ι 500002, 0, none⟩, _, by rw [addTo_len, ← l1, decide_eq_true (by omega)]; rfl, fun G hG => hG.ixq (List.mem_map.2 ⟨_, List.mem_cons_self, rfl⟩) (by rw [← l1]; exact hE) (by rw [addTo_len]; omega)⟩
         | (rw [List.eq_nil_of_length_eq_zero (l := glW l a1 b) (by omega), decide_eq_true (by omega)]
            exact ⟨none, 0, rfl, fun G _ => RIx.none G⟩))) : p := h
theorem rglue_C (F : Mem) (v : Value) (l : List Item) (a : Int) (a1 b : Nat) (width al : Int) (hv : RItems F v l) (hg : goodL l = true) (ha : a + 1 = a1) (hb : b < l.length) (hln : lineB l a b = true) (hw : 1 ≤ width ∧ width ≤ 1073741824) : C Try.prog 36 [v, .int .i64 a, .int .i64 b, .int .i64 width, .int .i64 al] F (RedGl (glueD l a1 b width al)) := by
  have hlen := good_len hg
  rcases hv.cases with ⟨vb, vo, vc, rfl, h63, hr⟩ | ⟨rfl, rfl⟩
  · have hab : a < b := by
      simp only [lineB, Bool.and_eq_true, decide_eq_true_eq] at hln
      exact hln.1.2
    have hmd : measD l a b = (mW l a1 b, mY l a1 b, mZ l a1 b) := by
      rw [measD, if_pos hln, ha, Int.toNat_natCast, Int.toNat_natCast]
    have hbg : beginAt l (b : Int).toNat ((b : Int).toNat - (a + 1).toNat) (a + 1).toNat = fromA l a1 b := by
      rw [ha, Int.toNat_natCast, Int.toNat_natCast, begin_eq hg _ _ _ (by omega) (by omega)]
      rfl
    have hfl := fromA_le l a1 b
    have oW := gl_mem_ok hg (f := Item.width) (i := fromA l a1 b) (d := b - fromA l a1 b) (by omega) okW
    have oY := gl_mem_ok hg (f := Item.stretch) (i := fromA l a1 b) (d := b - fromA l a1 b) (by omega) okY
    have oZ := gl_mem_ok hg (f := Item.shrink) (i := fromA l a1 b) (d := b - fromA l a1 b) (by omega) okZ
    have eY := glY_sum l a1 b
    have eZ := glZ_sum l a1 b
    have nY := gluL_le Item.stretch l (fromA l a1 b) (b - fromA l a1 b)
    have nZ := gluL_le Item.shrink l (fromA l a1 b) (b - fromA l a1 b)
    have bY := gl_sum oY _ (Nat.le_refl _)
    have bZ := gl_sum oZ _ (Nat.le_refl _)
    have bW := mW_bd hg (a1 := a1) hb
    generalize hfm : fromA l a1 b = fm at *
    refine C.go hT Try.func36 Try.ntmps36 ?_
    refine sq ?_
    refine rg ?_
    iterate 2 (refine st (h := O) ?_)
    refine nl ?_
    refine sq ?_
    refine rg ?_
    iterate 3 (refine st (h := O) ?_)
    refine cl (h := by exact fun ι hV hl => (hmd ▸ R24Measure_C _ _ l a b (hv.le hl))) ?_
    iterate 7 (refine st (h := O) ?_)
    refine nl ?_
    refine sq ?_
    refine rg ?_
    iterate 2 (refine st (h := O) ?_)
    refine st (h := sdS) ?_
    refine st (h := O) ?_
    refine nl ?_
    refine sq ?_
    refine rg ?_
    iterate 3 (refine st (h := O) ?_)
    refine nl ?_
    iterate 2 (refine sq ?_)
    refine rg ?_
    iterate 3 (refine st (h := O) ?_)
    refine cl (h := by exact fun ι hV hl => (hbg ▸ RBegin_C _ _ l a b (hv.le hl) (by omega) hab (by omega))) ?_
    refine st (h := O) ?_
    refine nl ?_
    refine bl ?_
    refine J.loop4 (α := Option (Nat × Nat × Nat)) (β := Nat) (γ := Nat) (δ := List Value × List Value × List Value) (fun o m d S => fm + d ≤ b ∧ m = (gluL Item.width l fm d).length ∧ apB (o.map Prod.fst) m ∧ apB (o.map sn2) m ∧ apB (o.map sn3) m ∧ S.1 = ivs (gluL Item.width l fm d) ∧ S.2.1 = ivs (gluL Item.stretch l fm d) ∧ S.2.2 = ivs (gluL Item.shrink l fm d)) (fun o m d S => [(16, apV 500002 (o.map Prod.fst) m), (17, apV 500003 (o.map sn2) m), (18, apV 500004 (o.map sn3) m), (19, .int .i64 ((fm + d : Nat) : Int))]) [(0, _), (2, _), (4, _), (13, _), (14, _), (15, _)] (fun o m d S => apR 500002 3 1 true (o.map Prod.fst) S.1 ++ apR 500003 3 1 true (o.map sn2) S.2.1 ++ apR 500004 3 1 true (o.map sn3) S.2.2 ++ []) [] (fun o m d S => b - fm - d) (none) (0) (0) (([], [], [])) (by exact ⟨rfl, rfl, rfl, rfl, trivial⟩) (by exact ⟨rfl, rfl, rfl, rfl, rfl, rfl, trivial⟩) (by exact (by repeat' first | exact trivial | refine And.intro rfl ?_)) ?_ ?_
    · exact ⟨by omega, rfl, rfl, rfl, rfl, rfl, rfl, rfl⟩
    ·intro o m d S L1 K1 e1 e2 hI
     rcases o with _ | cap_o
     all_goals
      dsimp only [apV, apR, List.cons_append, List.nil_append] at e1 e2
      subst e1 e2
      obtain ⟨hd, hm, ap1, ap2, ap3, hS1, hS2, hS3⟩ := hI
      simp only [apB, Option.map_none, Option.map_some] at ap1 ap2 ap3
      let ocap : Option (Nat × Nat × Nat) := by first | exact some cap_o | exact none
      have lm : m ≤ d := by rw [hm]; exact gluL_le _ _ _ _
      have l2 : m = (gluL Item.stretch l fm d).length := hm.trans (gluL_len _ _ l fm d)
      have l3 : m = (gluL Item.shrink l fm d).length := hm.trans (gluL_len _ _ l fm d)
      iterate 2 (refine sq ?_)
      refine rg ?_
      iterate 3 (refine st (h := O) ?_)
      refine nl ?_
      refine cD (fun c0 => ?_) (fun c0 => ?_)
      ·have hdl : fm + d < b := by omega
       obtain ⟨r0, r1, r2, r3, r4, r5, g, hg2, hri⟩ := hr (fm + d) (by omega)
       rw [show vo + (fm + d) * 11 = vo + ((fm + d : Nat) : Int).toNat * 11 from rfl] at r0 r1 r2 r3
       have k1 : S.1.length = m := by rw [hS1, ivs_length, hm]
       have k2 : S.2.1.length = m := by rw [hS2, ivs_length, l2]
       have k3 : S.2.2.length = m := by rw [hS3, ivs_length, l3]
       refine sk ?_
       refine sq ?_
       refine bl ?_
       refine sq ?_
       refine rg ?_
       iterate 2 (refine st (h := O) ?_)
       refine st (h := (sdX (z := 11))) ?_
       refine st (h := sdFA) ?_
       refine st (h := (by first | exact sdLG | exact sdW)) ?_
       refine st (h := O) ?_
       refine nl ?_
       refine cD (fun c1 => ?_) (fun c1 => ?_)
       ·have g1 : gluL Item.width l fm (d + 1) = gluL Item.width l fm d ++ [(at_ l (fm + d)).width] := by rw [gluL, if_pos c1]
        have g2 : gluL Item.stretch l fm (d + 1) = gluL Item.stretch l fm d ++ [(at_ l (fm + d)).stretch] := by rw [gluL, if_pos c1]
        have g3 : gluL Item.shrink l fm (d + 1) = gluL Item.shrink l fm d ++ [(at_ l (fm + d)).shrink] := by rw [gluL, if_pos c1]
        refine sq ?_
        refine rg ?_
        iterate 3 (refine st (h := O) ?_)
        refine st (h := (sdX (z := 11))) ?_
        refine st (h := sdFA) ?_
        refine st (h := (by first | exact sdLG | exact sdW)) ?_
        refine sl ?_
        first | refine apN (news := [_]) 500002 true [(0, _), (2, _), (4, _), (13, _), (14, _), (15, _), (17, _), (18, _), (19, _)] [(500003, _), (500004, _)] ?_ | refine apO (news := [_]) 501002 500002 [(0, _), (2, _), (4, _), (13, _), (14, _), (15, _), (17, _), (18, _), (19, _)] [(500003, _), (500004, _)] ?_ | refine apN (news := [_]) 500002 true [(0, _), (2, _), (4, _), (13, _), (14, _), (15, _), (17, _), (18, _), (19, _)] [(500004, _)] ?_ | refine apO (news := [_]) 501002 500002 [(0, _), (2, _), (4, _), (13, _), (14, _), (15, _), (17, _), (18, _), (19, _)] [(500004, _)] ?_ | refine apN (news := [_]) 500002 true [(0, _), (2, _), (4, _), (13, _), (14, _), (15, _), (17, _), (18, _), (19, _)] [(500003, _)] ?_ | refine apO (news := [_]) 501002 500002 [(0, _), (2, _), (4, _), (13, _), (14, _), (15, _), (17, _), (18, _), (19, _)] [(500003, _)] ?_ | refine apN (news := [_]) 500002 true [(0, _), (2, _), (4, _), (13, _), (14, _), (15, _), (17, _), (18, _), (19, _)] [] ?_ | refine apO (news := [_]) 501002 500002 [(0, _), (2, _), (4, _), (13, _), (14, _), (15, _), (17, _), (18, _), (19, _)] [] ?_
        intro cap60 hc60 hd60
        refine st (h := O) ?_
        refine nl ?_
        refine sq ?_
        refine rg ?_
        iterate 3 (refine st (h := O) ?_)
        refine st (h := (sdX (z := 11))) ?_
        refine st (h := sdFA) ?_
        refine st (h := (by first | exact sdLG | exact sdW)) ?_
        refine sl ?_
        first | refine apN (news := [_]) 500003 true [(0, _), (2, _), (4, _), (13, _), (14, _), (15, _), (16, _), (18, _), (19, _)] [(500002, _), (500004, _)] ?_ | refine apO (news := [_]) 501003 500003 [(0, _), (2, _), (4, _), (13, _), (14, _), (15, _), (16, _), (18, _), (19, _)] [(500002, _), (500004, _)] ?_ | refine apN (news := [_]) 500003 true [(0, _), (2, _), (4, _), (13, _), (14, _), (15, _), (16, _), (18, _), (19, _)] [(500002, _)] ?_ | refine apO (news := [_]) 501003 500003 [(0, _), (2, _), (4, _), (13, _), (14, _), (15, _), (16, _), (18, _), (19, _)] [(500002, _)] ?_
        intro cap68 hc68 hd68
        refine st (h := O) ?_
        refine nl ?_
        refine rg ?_
        iterate 3 (refine st (h := O) ?_)
        refine st (h := (sdX (z := 11))) ?_
        refine st (h := sdFA) ?_
        refine st (h := (by first | exact sdLG | exact sdW)) ?_
        refine sl ?_
        first | refine apN (news := [_]) 500004 true [(0, _), (2, _), (4, _), (13, _), (14, _), (15, _), (16, _), (17, _), (19, _)] [(500003, _), (500002, _)] ?_ | refine apO (news := [_]) 501004 500004 [(0, _), (2, _), (4, _), (13, _), (14, _), (15, _), (16, _), (17, _), (19, _)] [(500003, _), (500002, _)] ?_
        intro cap76 hc76 hd76
        refine st (h := O) ?_
        refine nl ?_
        refine bk ?_
        refine rg ?_
        refine st (h := O) ?_
        refine st (h := sdA) ?_
        refine st (h := O) ?_
        refine nl ?_
        refine bk4 (some (_, _, _)) (_) (d + 1) ((_, _, _)) (by exact ⟨rfl, rfl, rfl, rfl, trivial⟩) (by exact ⟨rfl, rfl, rfl, rfl, rfl, rfl, trivial⟩) (by exact (by repeat' first | exact trivial | refine And.intro rfl ?_)) ?_ ?_
        · omega
        · refine ⟨by omega, by rw [g1, List.length_append, ← hm]; show _ = m + 1; omega, by simp only [apB, Option.map_some, sn2, sn3]; omega, by simp only [apB, Option.map_some, sn2, sn3]; omega, by simp only [apB, Option.map_some, sn2, sn3]; omega, ?_, ?_, ?_⟩
          · rw [g1, ivs_append, ← hS1]
            first
              | rfl
              | (rw [List.eq_nil_of_length_eq_zero (l := S.1) (by omega)]; rfl)
          · rw [g2, ivs_append, ← hS2]
            first
              | rfl
              | (rw [List.eq_nil_of_length_eq_zero (l := S.2.1) (by omega)]; rfl)
          · rw [g3, ivs_append, ← hS3]
            first
              | rfl
              | (rw [List.eq_nil_of_length_eq_zero (l := S.2.2) (by omega)]; rfl)
       ·have g1 : gluL Item.width l fm (d + 1) = gluL Item.width l fm d := by rw [gluL, if_neg c1, List.append_nil]
        have g2 : gluL Item.stretch l fm (d + 1) = gluL Item.stretch l fm d := by rw [gluL, if_neg c1, List.append_nil]
        have g3 : gluL Item.shrink l fm (d + 1) = gluL Item.shrink l fm d := by rw [gluL, if_neg c1, List.append_nil]
        refine sk ?_
        refine bk ?_
        refine rg ?_
        refine st (h := O) ?_
        refine st (h := sdA) ?_
        refine st (h := O) ?_
        refine nl ?_
        refine bk4 (ocap) (m) (d + 1) (S) (by exact ⟨rfl, rfl, rfl, rfl, trivial⟩) (by exact ⟨rfl, rfl, rfl, rfl, rfl, rfl, trivial⟩) (by exact (by repeat' first | exact trivial | refine And.intro rfl ?_)) ?_ ?_
        · omega
        · exact ⟨by omega, by rw [g1]; exact hm, by simp only [ocap, apB, Option.map_some, Option.map_none]; omega, by simp only [ocap, apB, Option.map_some, Option.map_none]; omega, by simp only [ocap, apB, Option.map_some, Option.map_none]; omega, by rw [g1]; exact hS1, by rw [g2]; exact hS2, by rw [g3]; exact hS3⟩
      ·obtain rfl : d = b - fm := by omega
       subst hfm
       have l1 : m = (glW l a1 b).length := hm
       have l2 : m = (glY l a1 b).length := l2
       have l3 : m = (glZ l a1 b).length := l3
       have hS1 : S.1 = ivs (glW l a1 b) := hS1
       have hS2 : S.2.1 = ivs (glY l a1 b) := hS2
       have hS3 : S.2.2 = ivs (glZ l a1 b) := hS3
       have k1 : S.1.length = m := by rw [hS1, ivs_length, l1]
       have k3 : S.2.2.length = m := by rw [hS3, ivs_length, l3]
       have yb : 0 ≤ mY l a1 b ∧ mY l a1 b ≤ m * 1073741824 := by rw [l2, ← eY]; exact bY
       have zb : 0 ≤ mZ l a1 b ∧ mZ l a1 b ≤ m * 1073741824 := by rw [l3, ← eZ]; exact bZ
       have hm1 : m ≤ 1024 := by omega
       refine ex ?_
       iterate 2 (refine sq ?_)
       refine rg ?_
       iterate 3 (refine st (h := O) ?_)
       refine gD (fun g79 => ?_) (fun g79 => ?_)
       ·refine sg (h := O) ?_
        refine sg (h := O) ?_
        iterate 2 (refine st (h := O) ?_)
        refine gD (fun g83 => ?_) (fun g83 => ?_)
        ·refine sg (h := O) ?_
         refine sg (h := O) ?_
         refine st (h := O) ?_
         refine nl ?_
         refine cN (fun c2 => ?_) (fun c2 => ?_)
         ·try (exfalso; omega)
          all_goals
            have hsh : sharD (width - mW l a1 b) (glY l a1 b) = some (shares (width - mW l a1 b) (glY l a1 b) (glY l a1 b).length) := gl_share oY (by show (glY l a1 b).length ≤ 1024; omega) (by unfold inB; omega) (by show sumL (glY l a1 b) (glY l a1 b).length ≠ 0; rw [eY]; omega)
            refine sq ?_
            refine rg ?_
            iterate 2 (refine st (h := O) ?_)
            refine clC (h := by exact fun ι hV hl => (rShare_C _ (width - mW l a1 b) (some ⟨ι 500003, 0, none⟩) (sn2 cap_o) (glY l a1 b) (by unfold i64ok; omega) (hV.intsX rfl hS2 (by omega)) (by omega)).ofR (arg2 rfl (by rw [← l2]; rfl))) ?_
            intro u1 Y1 hQ1 hv1 hp1 hN1
            rw [hsh] at hQ1
            obtain ⟨sa, sc, rfl, hR1⟩ := hQ1
            have hA1 := hR1 _ hN1.rows
            rw [shares_len, ← l2]
            iterate 5 (refine st (h := O) ?_)
            refine nl ?_
            refine sq ?_
            refine rg ?_
            refine st (h := O) ?_
            refine nl ?_
            refine bl ?_
            first | refine J.loop2 (α := Nat) (β := List Value) (fun j E => j ≤ m ∧ E = ivs (addTo (glW l a1 b) (shares (width - mW l a1 b) (glY l a1 b) (glY l a1 b).length) 1 j)) (fun j E => [(22, .int .i64 j)]) [(14, _), (15, _), (16, _), (18, _), (20, _)] (fun j E => [(500002, { elem := 3, cs := E, room := Prod.fst cap_o * 1, fz := false, flat := true })]) [(500003, _), (500004, _)] (fun j E => m - j) (0) (_) (by exact ⟨rfl, trivial⟩) (by exact ⟨rfl, rfl, rfl, rfl, rfl, trivial⟩) (by exact ⟨rfl, rfl, rfl, rfl, rfl, rfl, trivial⟩) ?_ ?_ | refine J.loop2 (α := Nat) (β := List Value) (fun j E => j ≤ m ∧ E = ivs (addTo (glW l a1 b) (shares (width - mW l a1 b) (glY l a1 b) (glY l a1 b).length) 1 j)) (fun j E => [(22, .int .i64 j)]) [(14, _), (15, _), (16, _), (18, _), (20, _)] (fun j E => [(500002, { elem := 3, cs := E, room := Prod.fst cap_o * 1, fz := false, flat := true })]) [(500004, _)] (fun j E => m - j) (0) (_) (by exact ⟨rfl, trivial⟩) (by exact ⟨rfl, rfl, rfl, rfl, rfl, trivial⟩) (by exact ⟨rfl, rfl, rfl, rfl, trivial⟩) ?_ ?_ | refine J.loop2 (α := Nat) (β := List Value) (fun j E => j ≤ m ∧ E = ivs (addTo (glW l a1 b) (shares (width - mW l a1 b) (glY l a1 b) (glY l a1 b).length) 1 j)) (fun j E => [(22, .int .i64 j)]) [(14, _), (15, _), (16, _), (18, _), (20, _)] (fun j E => [(500002, { elem := 3, cs := E, room := Prod.fst cap_o * 1, fz := false, flat := true })]) [(500003, _)] (fun j E => m - j) (0) (_) (by exact ⟨rfl, trivial⟩) (by exact ⟨rfl, rfl, rfl, rfl, rfl, trivial⟩) (by exact ⟨rfl, rfl, rfl, rfl, trivial⟩) ?_ ?_ | refine J.loop2 (α := Nat) (β := List Value) (fun j E => j ≤ m ∧ E = ivs (addTo (glW l a1 b) (shares (width - mW l a1 b) (glY l a1 b) (glY l a1 b).length) 1 j)) (fun j E => [(22, .int .i64 j)]) [(14, _), (15, _), (16, _), (18, _), (20, _)] (fun j E => [(500002, { elem := 3, cs := E, room := Prod.fst cap_o * 1, fz := false, flat := true })]) [] (fun j E => m - j) (0) (_) (by exact ⟨rfl, trivial⟩) (by exact ⟨rfl, rfl, rfl, rfl, rfl, trivial⟩) (by exact ⟨rfl, rfl, trivial⟩) ?_ ?_
            · exact ⟨Nat.zero_le _, by rw [addTo_0]; exact hS1⟩
            ·intro j E L1 K1 e1 e2 hI
             dsimp only [apV, apR, List.cons_append, List.nil_append] at e1 e2
             subst e1 e2
             obtain ⟨hj, hE⟩ := hI
             have hEl : E.length = m := by rw [hE, ivs_length, addTo_len, l1]
             iterate 2 (refine sq ?_)
             refine rg ?_
             iterate 4 (refine st (h := O) ?_)
             refine nl ?_
             refine cD (fun c3 => ?_) (fun c3 => ?_)
             ·have hjm : j < m := by omega
              have hjw : j < (glW l a1 b).length := by omega
              have hd1 : E[0 + (j : Int).toNat * 1]? = some (.int .i64 (ints (glW l a1 b) j)) := by
                rw [Nat.zero_add, Nat.mul_one, Int.toNat_natCast, hE]
                exact addTo_get _ _ _ hjw
              obtain ⟨sb, so, rfl, hrs⟩ := hA1.rd (by rw [shares_len]; omega)
              have q1 : look (F.add Y1) ⟨sb, so + (j : Int).toNat * 1, none⟩ = some (.int .i64 (ints (shares (width - mW l a1 b) (glY l a1 b) (glY l a1 b).length) j)) := by rw [Nat.mul_one]; exact hrs j _ (ints_get (by rw [shares_len]; omega))
              have b1 := oW _ (List.mem_of_getElem? (ints_get (xs := glW l a1 b) hjw))
              have b2 := shares_bd (width - mW l a1 b) (glY l a1 b) (k := (glY l a1 b).length) (j := j) (by omega)
              refine sk ?_
              refine sq ?_
              refine bl ?_
              refine dr 10 [500002, 500003, 500004] [0, 1, 2, 3, 4, 5, 6, 7, 8, 9, 1010] ?_
              iterate 2 (refine dt (hv := by exact O) ?_)
              refine dt (hv := by exact (sdX (z := 1))) ?_
              refine dt (hv := by exact sdL (v := .int .i64 (ints (glW l a1 b) j)) (hv := by exact hd1)) ?_
              iterate 2 (refine dt (hv := by exact O) ?_)
              refine dt (hv := by exact (sdX (z := 1))) ?_
              refine dt (hv := by exact (by first | exact sdLG | exact sdW)) ?_
              refine dt (hv := by exact sdA) ?_
              refine dt (hv := by exact (sdX (z := 1))) ?_
              refine dso (hle := by show 0 + (j : Int).toNat * 1 + 1 ≤ E.length; omega) (hkp := by first | exact Kept.all | exact Kept.k0 | exact Kept.kY) ?_
              refine dn ?_
              refine bk ?_
              refine rg ?_
              refine st (h := O) ?_
              refine st (h := sdA) ?_
              refine st (h := O) ?_
              refine nl ?_
              refine bk2 (j + 1) (_) (by exact ⟨rfl, trivial⟩) (by exact ⟨rfl, rfl, rfl, rfl, rfl, trivial⟩) (by exact (by repeat' first | exact trivial | refine And.intro rfl ?_)) ?_ ?_
              · omega
              · have e := addTo_put (glW l a1 b) (shares (width - mW l a1 b) (glY l a1 b) (glY l a1 b).length) 1 hjw
                rw [Int.one_mul] at e
                refine ⟨by omega, ?_⟩
                show putL E (0 + (j : Int).toNat * 1) [.int .i64 _] = _
                rw [Nat.zero_add, Nat.mul_one, Int.toNat_natCast, ← e, hE]
             ·obtain rfl : j = m := by omega
              refine ex ?_
              iterate 2 (refine sq ?_)
              refine rg ?_
              iterate 3 (refine st (h := O) ?_)
              refine gD (fun g111 => ?_) (fun g111 => ?_)
              ·try (exfalso; omega)
               all_goals
                 refine sg (h := O) ?_
                 refine sg (h := sdN) ?_
                 iterate 2 (refine sg (h := O) ?_)
                 refine st (h := O) ?_
                 refine nl ?_
                 refine cD (fun c4 => ?_) (fun c4 => ?_)
                 ·try (exfalso; omega)
                  all_goals
                    have hsh2 : sharD (-(width - mW l a1 b)) (glZ l a1 b) = some (shares (-(width - mW l a1 b)) (glZ l a1 b) (glZ l a1 b).length) := gl_share oZ (by show (glZ l a1 b).length ≤ 1024; omega) (by unfold inB; omega) (by show sumL (glZ l a1 b) (glZ l a1 b).length ≠ 0; rw [eZ]; omega)
                    refine sq ?_
                    refine rg ?_
                    refine st (h := O) ?_
                    refine st (h := sdN) ?_
                    refine st (h := O) ?_
                    refine clC (h := by exact fun ι hV hl => (rShare_C _ (-(width - mW l a1 b)) (some ⟨ι 500004, 0, none⟩) (sn3 cap_o) (glZ l a1 b) (by unfold i64ok; omega) (hV.intsX rfl hS3 (by omega)) (by omega)).ofR (arg2 rfl (by rw [← l3]; rfl))) ?_
                    intro u2 Y2 hQ2 hv2 hp2 hN2
                    rw [hsh2] at hQ2
                    obtain ⟨sa, sc, rfl, hR2⟩ := hQ2
                    have hA2 := hR2 _ hN2.rows
                    rw [shares_len, ← l3]
                    iterate 5 (refine st (h := O) ?_)
                    refine nl ?_
                    refine sq ?_
                    refine rg ?_
                    refine st (h := O) ?_
                    refine nl ?_
                    refine bl ?_
                    first | refine J.loop2 (α := Nat) (β := List Value) (fun j E => j ≤ m ∧ E = ivs (addTo (glW l a1 b) (shares (-(width - mW l a1 b)) (glZ l a1 b) (glZ l a1 b).length) (-1) j)) (fun j E => [(25, .int .i64 j)]) [(14, _), (15, _), (16, _), (18, _), (23, _)] (fun j E => [(500002, { elem := 3, cs := E, room := Prod.fst cap_o * 1, fz := false, flat := true })]) [(500003, _), (500004, _)] (fun j E => m - j) (0) (_) (by exact ⟨rfl, trivial⟩) (by exact ⟨rfl, rfl, rfl, rfl, rfl, trivial⟩) (by exact ⟨rfl, rfl, rfl, rfl, rfl, rfl, trivial⟩) ?_ ?_ | refine J.loop2 (α := Nat) (β := List Value) (fun j E => j ≤ m ∧ E = ivs (addTo (glW l a1 b) (shares (-(width - mW l a1 b)) (glZ l a1 b) (glZ l a1 b).length) (-1) j)) (fun j E => [(25, .int .i64 j)]) [(14, _), (15, _), (16, _), (18, _), (23, _)] (fun j E => [(500002, { elem := 3, cs := E, room := Prod.fst cap_o * 1, fz := false, flat := true })]) [(500004, _)] (fun j E => m - j) (0) (_) (by exact ⟨rfl, trivial⟩) (by exact ⟨rfl, rfl, rfl, rfl, rfl, trivial⟩) (by exact ⟨rfl, rfl, rfl, rfl, trivial⟩) ?_ ?_ | refine J.loop2 (α := Nat) (β := List Value) (fun j E => j ≤ m ∧ E = ivs (addTo (glW l a1 b) (shares (-(width - mW l a1 b)) (glZ l a1 b) (glZ l a1 b).length) (-1) j)) (fun j E => [(25, .int .i64 j)]) [(14, _), (15, _), (16, _), (18, _), (23, _)] (fun j E => [(500002, { elem := 3, cs := E, room := Prod.fst cap_o * 1, fz := false, flat := true })]) [(500003, _)] (fun j E => m - j) (0) (_) (by exact ⟨rfl, trivial⟩) (by exact ⟨rfl, rfl, rfl, rfl, rfl, trivial⟩) (by exact ⟨rfl, rfl, rfl, rfl, trivial⟩) ?_ ?_ | refine J.loop2 (α := Nat) (β := List Value) (fun j E => j ≤ m ∧ E = ivs (addTo (glW l a1 b) (shares (-(width - mW l a1 b)) (glZ l a1 b) (glZ l a1 b).length) (-1) j)) (fun j E => [(25, .int .i64 j)]) [(14, _), (15, _), (16, _), (18, _), (23, _)] (fun j E => [(500002, { elem := 3, cs := E, room := Prod.fst cap_o * 1, fz := false, flat := true })]) [] (fun j E => m - j) (0) (_) (by exact ⟨rfl, trivial⟩) (by exact ⟨rfl, rfl, rfl, rfl, rfl, trivial⟩) (by exact ⟨rfl, rfl, trivial⟩) ?_ ?_
                    · exact ⟨Nat.zero_le _, by rw [addTo_0]; exact hS1⟩
                    ·intro j E L1 K1 e1 e2 hI
                     dsimp only [apV, apR, List.cons_append, List.nil_append] at e1 e2
                     subst e1 e2
                     obtain ⟨hj, hE⟩ := hI
                     have hEl : E.length = m := by rw [hE, ivs_length, addTo_len, l1]
                     iterate 2 (refine sq ?_)
                     refine rg ?_
                     iterate 4 (refine st (h := O) ?_)
                     refine nl ?_
                     refine cD (fun c5 => ?_) (fun c5 => ?_)
                     ·have hjm : j < m := by omega
                      have hjw : j < (glW l a1 b).length := by omega
                      have hd1 : E[0 + (j : Int).toNat * 1]? = some (.int .i64 (ints (glW l a1 b) j)) := by
                        rw [Nat.zero_add, Nat.mul_one, Int.toNat_natCast, hE]
                        exact addTo_get _ _ _ hjw
                      obtain ⟨sb, so, rfl, hrs⟩ := hA2.rd (by rw [shares_len]; omega)
                      have q1 : look (F.add Y2) ⟨sb, so + (j : Int).toNat * 1, none⟩ = some (.int .i64 (ints (shares (-(width - mW l a1 b)) (glZ l a1 b) (glZ l a1 b).length) j)) := by rw [Nat.mul_one]; exact hrs j _ (ints_get (by rw [shares_len]; omega))
                      have b1 := oW _ (List.mem_of_getElem? (ints_get (xs := glW l a1 b) hjw))
                      have b2 := shares_bd (-(width - mW l a1 b)) (glZ l a1 b) (k := (glZ l a1 b).length) (j := j) (by omega)
                      refine sk ?_
                      refine sq ?_
                      refine bl ?_
                      refine dr 10 [500002, 500003, 500004] [0, 1, 2, 3, 4, 5, 6, 7, 8, 9, 1010] ?_
                      iterate 2 (refine dt (hv := by exact O) ?_)
                      refine dt (hv := by exact (sdX (z := 1))) ?_
                      refine dt (hv := by exact sdL (v := .int .i64 (ints (glW l a1 b) j)) (hv := by exact hd1)) ?_
                      iterate 2 (refine dt (hv := by exact O) ?_)
                      refine dt (hv := by exact (sdX (z := 1))) ?_
                      refine dt (hv := by exact (by first | exact sdLG | exact sdW)) ?_
                      refine dt (hv := by exact sdS) ?_
                      refine dt (hv := by exact (sdX (z := 1))) ?_
                      refine dso (hle := by show 0 + (j : Int).toNat * 1 + 1 ≤ E.length; omega) (hkp := by first | exact Kept.all | exact Kept.k0 | exact Kept.kY) ?_
                      refine dn ?_
                      refine bk ?_
                      refine rg ?_
                      refine st (h := O) ?_
                      refine st (h := sdA) ?_
                      refine st (h := O) ?_
                      refine nl ?_
                      refine bk2 (j + 1) (_) (by exact ⟨rfl, trivial⟩) (by exact ⟨rfl, rfl, rfl, rfl, rfl, trivial⟩) (by exact (by repeat' first | exact trivial | refine And.intro rfl ?_)) ?_ ?_
                      · omega
                      · have e := addTo_put (glW l a1 b) (shares (-(width - mW l a1 b)) (glZ l a1 b) (glZ l a1 b).length) (-1) hjw
                        refine ⟨by omega, ?_⟩
                        show putL E (0 + (j : Int).toNat * 1) [.int .i64 _] = _
                        rw [Nat.zero_add, Nat.mul_one, Int.toNat_natCast, ← e, hE, Int.neg_one_mul, ← Int.sub_eq_add_neg]
                     ·obtain rfl : j = m := by omega
                      refine ex ?_
                      iterate 2 (refine sq ?_)
                      refine rg ?_
                      iterate 3 (refine st (h := O) ?_)
                      refine gD (fun g142 => ?_) (fun g142 => ?_)
                      ·try (exfalso; omega)
                       all_goals
                         refine sg (h := O) ?_
                         refine sg (h := sdN) ?_
                         iterate 2 (refine sg (h := O) ?_)
                         refine st (h := O) ?_
                         refine nl ?_
                         refine cD (fun c6 => ?_) (fun c6 => ?_)
                         ·try (exfalso; omega)
                          all_goals
                            refine sq ?_
                            refine rg ?_
                            refine st (h := O) ?_
                            refine nl ?_
                            refine bl ?_
                            first | refine J.loop2 (α := Nat) (β := List Value) (fun j E => j ≤ m ∧ E = ivs (addTo (glW l a1 b) (glZ l a1 b) (-1) j)) (fun j E => [(26, .int .i64 j)]) [(14, _), (15, _), (16, _), (18, _)] (fun j E => apR 500002 3 1 true (ocap.map Prod.fst) E ++ apR 500004 3 1 true (ocap.map sn3) S.2.2 ++ []) [(500003, _)] (fun j E => m - j) (0) (S.1) (by exact ⟨rfl, trivial⟩) (by exact ⟨rfl, rfl, rfl, rfl, trivial⟩) (by exact (by repeat' first | exact trivial | refine And.intro rfl ?_)) ?_ ?_ | refine J.loop2 (α := Nat) (β := List Value) (fun j E => j ≤ m ∧ E = ivs (addTo (glW l a1 b) (glZ l a1 b) (-1) j)) (fun j E => [(26, .int .i64 j)]) [(14, _), (15, _), (16, _), (18, _)] (fun j E => apR 500002 3 1 true (ocap.map Prod.fst) E ++ apR 500004 3 1 true (ocap.map sn3) S.2.2 ++ []) [] (fun j E => m - j) (0) (S.1) (by exact ⟨rfl, trivial⟩) (by exact ⟨rfl, rfl, rfl, rfl, trivial⟩) (by exact (by repeat' first | exact trivial | refine And.intro rfl ?_)) ?_ ?_
                            · exact ⟨Nat.zero_le _, by rw [addTo_0]; exact hS1⟩
                            ·intro j E L1 K1 e1 e2 hI
                             dsimp only [apV, apR, List.cons_append, List.nil_append] at e1 e2
                             subst e1 e2
                             obtain ⟨hj, hE⟩ := hI
                             have hEl : E.length = m := by rw [hE, ivs_length, addTo_len, l1]
                             iterate 2 (refine sq ?_)
                             refine rg ?_
                             iterate 4 (refine st (h := O) ?_)
                             refine nl ?_
                             refine cD (fun c7 => ?_) (fun c7 => ?_)
                             ·try (exfalso; omega)
                              all_goals
                                have hjm : j < m := by omega
                                have hjw : j < (glW l a1 b).length := by omega
                                have hd1 : E[0 + (j : Int).toNat * 1]? = some (.int .i64 (ints (glW l a1 b) j)) := by
                                  rw [Nat.zero_add, Nat.mul_one, Int.toNat_natCast, hE]
                                  exact addTo_get _ _ _ hjw
                                have hd2 : S.2.2[0 + (j : Int).toNat * 1]? = some (.int .i64 (ints (glZ l a1 b) j)) := by
                                  rw [Nat.zero_add, Nat.mul_one, Int.toNat_natCast, hS3]
                                  exact ivs_get (ints_get (by omega))
                                have b1 := oW _ (List.mem_of_getElem? (ints_get (xs := glW l a1 b) hjw))
                                have b2 := oZ _ (List.mem_of_getElem? (ints_get (xs := glZ l a1 b) (i := j) (by omega)))
                                refine sk ?_
                                refine sq ?_
                                refine bl ?_
                                refine dr 10 [500003, 500002, 500004] [0, 1, 2, 3, 4, 5, 6, 7, 8, 9, 1010] ?_
                                iterate 2 (refine dt (hv := by exact O) ?_)
                                refine dt (hv := by exact (sdX (z := 1))) ?_
                                refine dt (hv := by exact sdL (v := .int .i64 (ints (glW l a1 b) j)) (hv := by exact hd1)) ?_
                                iterate 2 (refine dt (hv := by exact O) ?_)
                                refine dt (hv := by exact (sdX (z := 1))) ?_
                                refine dt (hv := by exact sdL (v := .int .i64 (ints (glZ l a1 b) j)) (hv := by exact hd2)) ?_
                                refine dt (hv := by exact sdS) ?_
                                refine dt (hv := by exact (sdX (z := 1))) ?_
                                refine dso (hle := by show 0 + (j : Int).toNat * 1 + 1 ≤ E.length; omega) (hkp := by first | exact Kept.all | exact Kept.k0 | exact Kept.kY) ?_
                                refine dn ?_
                                refine bk ?_
                                refine rg ?_
                                refine st (h := O) ?_
                                refine st (h := sdA) ?_
                                refine st (h := O) ?_
                                refine nl ?_
                                refine bk2 (j + 1) (_) (by exact ⟨rfl, trivial⟩) (by exact ⟨rfl, rfl, rfl, rfl, trivial⟩) (by exact (by repeat' first | exact trivial | refine And.intro rfl ?_)) ?_ ?_
                                · omega
                                · have e := addTo_put (glW l a1 b) (glZ l a1 b) (-1) hjw
                                  refine ⟨by omega, ?_⟩
                                  show putL E (0 + (j : Int).toNat * 1) [.int .i64 _] = _
                                  rw [Nat.zero_add, Nat.mul_one, Int.toNat_natCast, ← e, hE, Int.neg_one_mul, ← Int.sub_eq_add_neg]
                             ·obtain rfl : j = m := by omega
                              refine ex ?_
                              refine sq ?_
                              refine rg ?_
                              iterate 4 (refine st (h := O) ?_)
                              refine gD (fun g167 => ?_) (fun g167 => ?_)
                              ·try (exfalso; omega)
                               all_goals
                                 refine sg (h := O) ?_
                                 refine sg (h := sdN) ?_
                                 iterate 2 (refine sg (h := O) ?_)
                                 iterate 3 (refine st (h := O) ?_)
                                 refine nl ?_
                                 repeat refine J.dropF ?_
                                 refine rtX fun ι hV => ?_
                                 exact gluRet
                              ·try (exfalso; omega)
                               all_goals
                                 iterate 4 (refine sp ?_)
                                 iterate 3 (refine st (h := O) ?_)
                                 refine nl ?_
                                 repeat refine J.dropF ?_
                                 refine rtX fun ι hV => ?_
                                 exact gluRet
                         ·refine sk ?_
                          refine sq ?_
                          refine rg ?_
                          iterate 4 (refine st (h := O) ?_)
                          refine gD (fun g167 => ?_) (fun g167 => ?_)
                          ·try (exfalso; omega)
                           all_goals
                             refine sg (h := O) ?_
                             refine sg (h := sdN) ?_
                             iterate 2 (refine sg (h := O) ?_)
                             iterate 3 (refine st (h := O) ?_)
                             refine nl ?_
                             repeat refine J.dropF ?_
                             refine rtX fun ι hV => ?_
                             exact gluRet
                          ·try (exfalso; omega)
                           all_goals
                             iterate 4 (refine sp ?_)
                             iterate 3 (refine st (h := O) ?_)
                             refine nl ?_
                             repeat refine J.dropF ?_
                             refine rtX fun ι hV => ?_
                             exact gluRet
                      ·try (exfalso; omega)
                       all_goals
                         iterate 4 (refine sp ?_)
                         refine st (h := O) ?_
                         refine nl ?_
                         refine cF ?_
                         refine sk ?_
                         refine sq ?_
                         refine rg ?_
                         iterate 4 (refine st (h := O) ?_)
                         refine gD (fun g167 => ?_) (fun g167 => ?_)
                         ·try (exfalso; omega)
                          all_goals
                            refine sg (h := O) ?_
                            refine sg (h := sdN) ?_
                            iterate 2 (refine sg (h := O) ?_)
                            iterate 3 (refine st (h := O) ?_)
                            refine nl ?_
                            repeat refine J.dropF ?_
                            refine rtX fun ι hV => ?_
                            exact gluRet
                         ·try (exfalso; omega)
                          all_goals
                            iterate 4 (refine sp ?_)
                            iterate 3 (refine st (h := O) ?_)
                            refine nl ?_
                            repeat refine J.dropF ?_
                            refine rtX fun ι hV => ?_
                            exact gluRet
                 ·refine sk ?_
                  iterate 2 (refine sq ?_)
                  refine rg ?_
                  iterate 3 (refine st (h := O) ?_)
                  refine gD (fun g142 => ?_) (fun g142 => ?_)
                  ·try (exfalso; omega)
                   all_goals
                     refine sg (h := O) ?_
                     refine sg (h := sdN) ?_
                     iterate 2 (refine sg (h := O) ?_)
                     refine st (h := O) ?_
                     refine nl ?_
                     refine cD (fun c6 => ?_) (fun c6 => ?_)
                     ·try (exfalso; omega)
                      all_goals
                        refine sq ?_
                        refine rg ?_
                        refine st (h := O) ?_
                        refine nl ?_
                        refine bl ?_
                        first | refine J.loop2 (α := Nat) (β := List Value) (fun j E => j ≤ m ∧ E = ivs (addTo (glW l a1 b) (glZ l a1 b) (-1) j)) (fun j E => [(26, .int .i64 j)]) [(14, _), (15, _), (16, _), (18, _)] (fun j E => apR 500002 3 1 true (ocap.map Prod.fst) E ++ apR 500004 3 1 true (ocap.map sn3) S.2.2 ++ []) [(500003, _)] (fun j E => m - j) (0) (S.1) (by exact ⟨rfl, trivial⟩) (by exact ⟨rfl, rfl, rfl, rfl, trivial⟩) (by exact (by repeat' first | exact trivial | refine And.intro rfl ?_)) ?_ ?_ | refine J.loop2 (α := Nat) (β := List Value) (fun j E => j ≤ m ∧ E = ivs (addTo (glW l a1 b) (glZ l a1 b) (-1) j)) (fun j E => [(26, .int .i64 j)]) [(14, _), (15, _), (16, _), (18, _)] (fun j E => apR 500002 3 1 true (ocap.map Prod.fst) E ++ apR 500004 3 1 true (ocap.map sn3) S.2.2 ++ []) [] (fun j E => m - j) (0) (S.1) (by exact ⟨rfl, trivial⟩) (by exact ⟨rfl, rfl, rfl, rfl, trivial⟩) (by exact (by repeat' first | exact trivial | refine And.intro rfl ?_)) ?_ ?_
                        · exact ⟨Nat.zero_le _, by rw [addTo_0]; exact hS1⟩
                        ·intro j E L1 K1 e1 e2 hI
                         dsimp only [apV, apR, List.cons_append, List.nil_append] at e1 e2
                         subst e1 e2
                         obtain ⟨hj, hE⟩ := hI
                         have hEl : E.length = m := by rw [hE, ivs_length, addTo_len, l1]
                         iterate 2 (refine sq ?_)
                         refine rg ?_
                         iterate 4 (refine st (h := O) ?_)
                         refine nl ?_
                         refine cD (fun c7 => ?_) (fun c7 => ?_)
                         ·try (exfalso; omega)
                          all_goals
                            have hjm : j < m := by omega
                            have hjw : j < (glW l a1 b).length := by omega
                            have hd1 : E[0 + (j : Int).toNat * 1]? = some (.int .i64 (ints (glW l a1 b) j)) := by
                              rw [Nat.zero_add, Nat.mul_one, Int.toNat_natCast, hE]
                              exact addTo_get _ _ _ hjw
                            have hd2 : S.2.2[0 + (j : Int).toNat * 1]? = some (.int .i64 (ints (glZ l a1 b) j)) := by
                              rw [Nat.zero_add, Nat.mul_one, Int.toNat_natCast, hS3]
                              exact ivs_get (ints_get (by omega))
                            have b1 := oW _ (List.mem_of_getElem? (ints_get (xs := glW l a1 b) hjw))
                            have b2 := oZ _ (List.mem_of_getElem? (ints_get (xs := glZ l a1 b) (i := j) (by omega)))
                            refine sk ?_
                            refine sq ?_
                            refine bl ?_
                            refine dr 10 [500003, 500002, 500004] [0, 1, 2, 3, 4, 5, 6, 7, 8, 9, 1010] ?_
                            iterate 2 (refine dt (hv := by exact O) ?_)
                            refine dt (hv := by exact (sdX (z := 1))) ?_
                            refine dt (hv := by exact sdL (v := .int .i64 (ints (glW l a1 b) j)) (hv := by exact hd1)) ?_
                            iterate 2 (refine dt (hv := by exact O) ?_)
                            refine dt (hv := by exact (sdX (z := 1))) ?_
                            refine dt (hv := by exact sdL (v := .int .i64 (ints (glZ l a1 b) j)) (hv := by exact hd2)) ?_
                            refine dt (hv := by exact sdS) ?_
                            refine dt (hv := by exact (sdX (z := 1))) ?_
                            refine dso (hle := by show 0 + (j : Int).toNat * 1 + 1 ≤ E.length; omega) (hkp := by first | exact Kept.all | exact Kept.k0 | exact Kept.kY) ?_
                            refine dn ?_
                            refine bk ?_
                            refine rg ?_
                            refine st (h := O) ?_
                            refine st (h := sdA) ?_
                            refine st (h := O) ?_
                            refine nl ?_
                            refine bk2 (j + 1) (_) (by exact ⟨rfl, trivial⟩) (by exact ⟨rfl, rfl, rfl, rfl, trivial⟩) (by exact (by repeat' first | exact trivial | refine And.intro rfl ?_)) ?_ ?_
                            · omega
                            · have e := addTo_put (glW l a1 b) (glZ l a1 b) (-1) hjw
                              refine ⟨by omega, ?_⟩
                              show putL E (0 + (j : Int).toNat * 1) [.int .i64 _] = _
                              rw [Nat.zero_add, Nat.mul_one, Int.toNat_natCast, ← e, hE, Int.neg_one_mul, ← Int.sub_eq_add_neg]
                         ·obtain rfl : j = m := by omega
                          refine ex ?_
                          refine sq ?_
                          refine rg ?_
                          iterate 4 (refine st (h := O) ?_)
                          refine gD (fun g167 => ?_) (fun g167 => ?_)
                          ·try (exfalso; omega)
                           all_goals
                             refine sg (h := O) ?_
                             refine sg (h := sdN) ?_
                             iterate 2 (refine sg (h := O) ?_)
                             iterate 3 (refine st (h := O) ?_)
                             refine nl ?_
                             repeat refine J.dropF ?_
                             refine rtX fun ι hV => ?_
                             exact gluRet
                          ·try (exfalso; omega)
                           all_goals
                             iterate 4 (refine sp ?_)
                             iterate 3 (refine st (h := O) ?_)
                             refine nl ?_
                             repeat refine J.dropF ?_
                             refine rtX fun ι hV => ?_
                             exact gluRet
                     ·refine sk ?_
                      refine sq ?_
                      refine rg ?_
                      iterate 4 (refine st (h := O) ?_)
                      refine gD (fun g167 => ?_) (fun g167 => ?_)
                      ·try (exfalso; omega)
                       all_goals
                         refine sg (h := O) ?_
                         refine sg (h := sdN) ?_
                         iterate 2 (refine sg (h := O) ?_)
                         iterate 3 (refine st (h := O) ?_)
                         refine nl ?_
                         repeat refine J.dropF ?_
                         refine rtX fun ι hV => ?_
                         exact gluRet
                      ·try (exfalso; omega)
                       all_goals
                         iterate 4 (refine sp ?_)
                         iterate 3 (refine st (h := O) ?_)
                         refine nl ?_
                         repeat refine J.dropF ?_
                         refine rtX fun ι hV => ?_
                         exact gluRet
                  ·try (exfalso; omega)
                   all_goals
                     iterate 4 (refine sp ?_)
                     refine st (h := O) ?_
                     refine nl ?_
                     refine cF ?_
                     refine sk ?_
                     refine sq ?_
                     refine rg ?_
                     iterate 4 (refine st (h := O) ?_)
                     refine gD (fun g167 => ?_) (fun g167 => ?_)
                     ·try (exfalso; omega)
                      all_goals
                        refine sg (h := O) ?_
                        refine sg (h := sdN) ?_
                        iterate 2 (refine sg (h := O) ?_)
                        iterate 3 (refine st (h := O) ?_)
                        refine nl ?_
                        repeat refine J.dropF ?_
                        refine rtX fun ι hV => ?_
                        exact gluRet
                     ·try (exfalso; omega)
                      all_goals
                        iterate 4 (refine sp ?_)
                        iterate 3 (refine st (h := O) ?_)
                        refine nl ?_
                        repeat refine J.dropF ?_
                        refine rtX fun ι hV => ?_
                        exact gluRet
              ·try (exfalso; omega)
               all_goals
                 iterate 4 (refine sp ?_)
                 refine st (h := O) ?_
                 refine nl ?_
                 refine cF ?_
                 refine sk ?_
                 iterate 2 (refine sq ?_)
                 refine rg ?_
                 iterate 3 (refine st (h := O) ?_)
                 refine gD (fun g142 => ?_) (fun g142 => ?_)
                 ·try (exfalso; omega)
                  all_goals
                    refine sg (h := O) ?_
                    refine sg (h := sdN) ?_
                    iterate 2 (refine sg (h := O) ?_)
                    refine st (h := O) ?_
                    refine nl ?_
                    refine cD (fun c6 => ?_) (fun c6 => ?_)
                    ·try (exfalso; omega)
                     all_goals
                       refine sq ?_
                       refine rg ?_
                       refine st (h := O) ?_
                       refine nl ?_
                       refine bl ?_
                       first | refine J.loop2 (α := Nat) (β := List Value) (fun j E => j ≤ m ∧ E = ivs (addTo (glW l a1 b) (glZ l a1 b) (-1) j)) (fun j E => [(26, .int .i64 j)]) [(14, _), (15, _), (16, _), (18, _)] (fun j E => apR 500002 3 1 true (ocap.map Prod.fst) E ++ apR 500004 3 1 true (ocap.map sn3) S.2.2 ++ []) [(500003, _)] (fun j E => m - j) (0) (S.1) (by exact ⟨rfl, trivial⟩) (by exact ⟨rfl, rfl, rfl, rfl, trivial⟩) (by exact (by repeat' first | exact trivial | refine And.intro rfl ?_)) ?_ ?_ | refine J.loop2 (α := Nat) (β := List Value) (fun j E => j ≤ m ∧ E = ivs (addTo (glW l a1 b) (glZ l a1 b) (-1) j)) (fun j E => [(26, .int .i64 j)]) [(14, _), (15, _), (16, _), (18, _)] (fun j E => apR 500002 3 1 true (ocap.map Prod.fst) E ++ apR 500004 3 1 true (ocap.map sn3) S.2.2 ++ []) [] (fun j E => m - j) (0) (S.1) (by exact ⟨rfl, trivial⟩) (by exact ⟨rfl, rfl, rfl, rfl, trivial⟩) (by exact (by repeat' first | exact trivial | refine And.intro rfl ?_)) ?_ ?_
                       · exact ⟨Nat.zero_le _, by rw [addTo_0]; exact hS1⟩
                       ·intro j E L1 K1 e1 e2 hI
                        dsimp only [apV, apR, List.cons_append, List.nil_append] at e1 e2
                        subst e1 e2
                        obtain ⟨hj, hE⟩ := hI
                        have hEl : E.length = m := by rw [hE, ivs_length, addTo_len, l1]
                        iterate 2 (refine sq ?_)
                        refine rg ?_
                        iterate 4 (refine st (h := O) ?_)
                        refine nl ?_
                        refine cD (fun c7 => ?_) (fun c7 => ?_)
                        ·try (exfalso; omega)
                         all_goals
                           have hjm : j < m := by omega
                           have hjw : j < (glW l a1 b).length := by omega
                           have hd1 : E[0 + (j : Int).toNat * 1]? = some (.int .i64 (ints (glW l a1 b) j)) := by
                             rw [Nat.zero_add, Nat.mul_one, Int.toNat_natCast, hE]
                             exact addTo_get _ _ _ hjw
                           have hd2 : S.2.2[0 + (j : Int).toNat * 1]? = some (.int .i64 (ints (glZ l a1 b) j)) := by
                             rw [Nat.zero_add, Nat.mul_one, Int.toNat_natCast, hS3]
                             exact ivs_get (ints_get (by omega))
                           have b1 := oW _ (List.mem_of_getElem? (ints_get (xs := glW l a1 b) hjw))
                           have b2 := oZ _ (List.mem_of_getElem? (ints_get (xs := glZ l a1 b) (i := j) (by omega)))
                           refine sk ?_
                           refine sq ?_
                           refine bl ?_
                           refine dr 10 [500003, 500002, 500004] [0, 1, 2, 3, 4, 5, 6, 7, 8, 9, 1010] ?_
                           iterate 2 (refine dt (hv := by exact O) ?_)
                           refine dt (hv := by exact (sdX (z := 1))) ?_
                           refine dt (hv := by exact sdL (v := .int .i64 (ints (glW l a1 b) j)) (hv := by exact hd1)) ?_
                           iterate 2 (refine dt (hv := by exact O) ?_)
                           refine dt (hv := by exact (sdX (z := 1))) ?_
                           refine dt (hv := by exact sdL (v := .int .i64 (ints (glZ l a1 b) j)) (hv := by exact hd2)) ?_
                           refine dt (hv := by exact sdS) ?_
                           refine dt (hv := by exact (sdX (z := 1))) ?_
                           refine dso (hle := by show 0 + (j : Int).toNat * 1 + 1 ≤ E.length; omega) (hkp := by first | exact Kept.all | exact Kept.k0 | exact Kept.kY) ?_
                           refine dn ?_
                           refine bk ?_
                           refine rg ?_
                           refine st (h := O) ?_
                           refine st (h := sdA) ?_
                           refine st (h := O) ?_
                           refine nl ?_
                           refine bk2 (j + 1) (_) (by exact ⟨rfl, trivial⟩) (by exact ⟨rfl, rfl, rfl, rfl, trivial⟩) (by exact (by repeat' first | exact trivial | refine And.intro rfl ?_)) ?_ ?_
                           · omega
                           · have e := addTo_put (glW l a1 b) (glZ l a1 b) (-1) hjw
                             refine ⟨by omega, ?_⟩
                             show putL E (0 + (j : Int).toNat * 1) [.int .i64 _] = _
                             rw [Nat.zero_add, Nat.mul_one, Int.toNat_natCast, ← e, hE, Int.neg_one_mul, ← Int.sub_eq_add_neg]
                        ·obtain rfl : j = m := by omega
                         refine ex ?_
                         refine sq ?_
                         refine rg ?_
                         iterate 4 (refine st (h := O) ?_)
                         refine gD (fun g167 => ?_) (fun g167 => ?_)
                         ·try (exfalso; omega)
                          all_goals
                            refine sg (h := O) ?_
                            refine sg (h := sdN) ?_
                            iterate 2 (refine sg (h := O) ?_)
                            iterate 3 (refine st (h := O) ?_)
                            refine nl ?_
                            repeat refine J.dropF ?_
                            refine rtX fun ι hV => ?_
                            exact gluRet
                         ·try (exfalso; omega)
                          all_goals
                            iterate 4 (refine sp ?_)
                            iterate 3 (refine st (h := O) ?_)
                            refine nl ?_
                            repeat refine J.dropF ?_
                            refine rtX fun ι hV => ?_
                            exact gluRet
                    ·refine sk ?_
                     refine sq ?_
                     refine rg ?_
                     iterate 4 (refine st (h := O) ?_)
                     refine gD (fun g167 => ?_) (fun g167 => ?_)
                     ·try (exfalso; omega)
                      all_goals
                        refine sg (h := O) ?_
                        refine sg (h := sdN) ?_
                        iterate 2 (refine sg (h := O) ?_)
                        iterate 3 (refine st (h := O) ?_)
                        refine nl ?_
                        repeat refine J.dropF ?_
                        refine rtX fun ι hV => ?_
                        exact gluRet
                     ·try (exfalso; omega)
                      all_goals
                        iterate 4 (refine sp ?_)
                        iterate 3 (refine st (h := O) ?_)
                        refine nl ?_
                        repeat refine J.dropF ?_
                        refine rtX fun ι hV => ?_
                        exact gluRet
                 ·try (exfalso; omega)
                  all_goals
                    iterate 4 (refine sp ?_)
                    refine st (h := O) ?_
                    refine nl ?_
                    refine cF ?_
                    refine sk ?_
                    refine sq ?_
                    refine rg ?_
                    iterate 4 (refine st (h := O) ?_)
                    refine gD (fun g167 => ?_) (fun g167 => ?_)
                    ·try (exfalso; omega)
                     all_goals
                       refine sg (h := O) ?_
                       refine sg (h := sdN) ?_
                       iterate 2 (refine sg (h := O) ?_)
                       iterate 3 (refine st (h := O) ?_)
                       refine nl ?_
                       repeat refine J.dropF ?_
                       refine rtX fun ι hV => ?_
                       exact gluRet
                    ·try (exfalso; omega)
                     all_goals
                       iterate 4 (refine sp ?_)
                       iterate 3 (refine st (h := O) ?_)
                       refine nl ?_
                       repeat refine J.dropF ?_
                       refine rtX fun ι hV => ?_
                       exact gluRet
         ·refine sk ?_
          iterate 2 (refine sq ?_)
          refine rg ?_
          iterate 3 (refine st (h := O) ?_)
          refine gD (fun g111 => ?_) (fun g111 => ?_)
          ·try (exfalso; omega)
           all_goals
             refine sg (h := O) ?_
             refine sg (h := sdN) ?_
             iterate 2 (refine sg (h := O) ?_)
             refine st (h := O) ?_
             refine nl ?_
             refine cD (fun c4 => ?_) (fun c4 => ?_)
             ·try (exfalso; omega)
              all_goals
                have hsh2 : sharD (-(width - mW l a1 b)) (glZ l a1 b) = some (shares (-(width - mW l a1 b)) (glZ l a1 b) (glZ l a1 b).length) := gl_share oZ (by show (glZ l a1 b).length ≤ 1024; omega) (by unfold inB; omega) (by show sumL (glZ l a1 b) (glZ l a1 b).length ≠ 0; rw [eZ]; omega)
                refine sq ?_
                refine rg ?_
                refine st (h := O) ?_
                refine st (h := sdN) ?_
                refine st (h := O) ?_
                refine clC (h := by exact fun ι hV hl => (rShare_C _ (-(width - mW l a1 b)) (some ⟨ι 500004, 0, none⟩) (sn3 cap_o) (glZ l a1 b) (by unfold i64ok; omega) (hV.intsX rfl hS3 (by omega)) (by omega)).ofR (arg2 rfl (by rw [← l3]; rfl))) ?_
                intro u2 Y2 hQ2 hv2 hp2 hN2
                rw [hsh2] at hQ2
                obtain ⟨sa, sc, rfl, hR2⟩ := hQ2
                have hA2 := hR2 _ hN2.rows
                rw [shares_len, ← l3]
                iterate 5 (refine st (h := O) ?_)
                refine nl ?_
                refine sq ?_
                refine rg ?_
                refine st (h := O) ?_
                refine nl ?_
                refine bl ?_
                first | refine J.loop2 (α := Nat) (β := List Value) (fun j E => j ≤ m ∧ E = ivs (addTo (glW l a1 b) (shares (-(width - mW l a1 b)) (glZ l a1 b) (glZ l a1 b).length) (-1) j)) (fun j E => [(25, .int .i64 j)]) [(14, _), (15, _), (16, _), (18, _), (23, _)] (fun j E => [(500002, { elem := 3, cs := E, room := Prod.fst cap_o * 1, fz := false, flat := true })]) [(500003, _), (500004, _)] (fun j E => m - j) (0) (_) (by exact ⟨rfl, trivial⟩) (by exact ⟨rfl, rfl, rfl, rfl, rfl, trivial⟩) (by exact ⟨rfl, rfl, rfl, rfl, rfl, rfl, trivial⟩) ?_ ?_ | refine J.loop2 (α := Nat) (β := List Value) (fun j E => j ≤ m ∧ E = ivs (addTo (glW l a1 b) (shares (-(width - mW l a1 b)) (glZ l a1 b) (glZ l a1 b).length) (-1) j)) (fun j E => [(25, .int .i64 j)]) [(14, _), (15, _), (16, _), (18, _), (23, _)] (fun j E => [(500002, { elem := 3, cs := E, room := Prod.fst cap_o * 1, fz := false, flat := true })]) [(500004, _)] (fun j E => m - j) (0) (_) (by exact ⟨rfl, trivial⟩) (by exact ⟨rfl, rfl, rfl, rfl, rfl, trivial⟩) (by exact ⟨rfl, rfl, rfl, rfl, trivial⟩) ?_ ?_ | refine J.loop2 (α := Nat) (β := List Value) (fun j E => j ≤ m ∧ E = ivs (addTo (glW l a1 b) (shares (-(width - mW l a1 b)) (glZ l a1 b) (glZ l a1 b).length) (-1) j)) (fun j E => [(25, .int .i64 j)]) [(14, _), (15, _), (16, _), (18, _), (23, _)] (fun j E => [(500002, { elem := 3, cs := E, room := Prod.fst cap_o * 1, fz := false, flat := true })]) [(500003, _)] (fun j E => m - j) (0) (_) (by exact ⟨rfl, trivial⟩) (by exact ⟨rfl, rfl, rfl, rfl, rfl, trivial⟩) (by exact ⟨rfl, rfl, rfl, rfl, trivial⟩) ?_ ?_ | refine J.loop2 (α := Nat) (β := List Value) (fun j E => j ≤ m ∧ E = ivs (addTo (glW l a1 b) (shares (-(width - mW l a1 b)) (glZ l a1 b) (glZ l a1 b).length) (-1) j)) (fun j E => [(25, .int .i64 j)]) [(14, _), (15, _), (16, _), (18, _), (23, _)] (fun j E => [(500002, { elem := 3, cs := E, room := Prod.fst cap_o * 1, fz := false, flat := true })]) [] (fun j E => m - j) (0) (_) (by exact ⟨rfl, trivial⟩) (by exact ⟨rfl, rfl, rfl, rfl, rfl, trivial⟩) (by exact ⟨rfl, rfl, trivial⟩) ?_ ?_
                · exact ⟨Nat.zero_le _, by rw [addTo_0]; exact hS1⟩
                ·intro j E L1 K1 e1 e2 hI
                 dsimp only [apV, apR, List.cons_append, List.nil_append] at e1 e2
                 subst e1 e2
                 obtain ⟨hj, hE⟩ := hI
                 have hEl : E.length = m := by rw [hE, ivs_length, addTo_len, l1]
                 iterate 2 (refine sq ?_)
                 refine rg ?_
                 iterate 4 (refine st (h := O) ?_)
                 refine nl ?_
                 refine cD (fun c5 => ?_) (fun c5 => ?_)
                 ·have hjm : j < m := by omega
                  have hjw : j < (glW l a1 b).length := by omega
                  have hd1 : E[0 + (j : Int).toNat * 1]? = some (.int .i64 (ints (glW l a1 b) j)) := by
                    rw [Nat.zero_add, Nat.mul_one, Int.toNat_natCast, hE]
                    exact addTo_get _ _ _ hjw
                  obtain ⟨sb, so, rfl, hrs⟩ := hA2.rd (by rw [shares_len]; omega)
                  have q1 : look (F.add Y2) ⟨sb, so + (j : Int).toNat * 1, none⟩ = some (.int .i64 (ints (shares (-(width - mW l a1 b)) (glZ l a1 b) (glZ l a1 b).length) j)) := by rw [Nat.mul_one]; exact hrs j _ (ints_get (by rw [shares_len]; omega))
                  have b1 := oW _ (List.mem_of_getElem? (ints_get (xs := glW l a1 b) hjw))
                  have b2 := shares_bd (-(width - mW l a1 b)) (glZ l a1 b) (k := (glZ l a1 b).length) (j := j) (by omega)
                  refine sk ?_
                  refine sq ?_
                  refine bl ?_
                  refine dr 10 [500002, 500003, 500004] [0, 1, 2, 3, 4, 5, 6, 7, 8, 9, 1010] ?_
                  iterate 2 (refine dt (hv := by exact O) ?_)
                  refine dt (hv := by exact (sdX (z := 1))) ?_
                  refine dt (hv := by exact sdL (v := .int .i64 (ints (glW l a1 b) j)) (hv := by exact hd1)) ?_
                  iterate 2 (refine dt (hv := by exact O) ?_)
                  refine dt (hv := by exact (sdX (z := 1))) ?_
                  refine dt (hv := by exact (by first | exact sdLG | exact sdW)) ?_
                  refine dt (hv := by exact sdS) ?_
                  refine dt (hv := by exact (sdX (z := 1))) ?_
                  refine dso (hle := by show 0 + (j : Int).toNat * 1 + 1 ≤ E.length; omega) (hkp := by first | exact Kept.all | exact Kept.k0 | exact Kept.kY) ?_
                  refine dn ?_
                  refine bk ?_
                  refine rg ?_
                  refine st (h := O) ?_
                  refine st (h := sdA) ?_
                  refine st (h := O) ?_
                  refine nl ?_
                  refine bk2 (j + 1) (_) (by exact ⟨rfl, trivial⟩) (by exact ⟨rfl, rfl, rfl, rfl, rfl, trivial⟩) (by exact (by repeat' first | exact trivial | refine And.intro rfl ?_)) ?_ ?_
                  · omega
                  · have e := addTo_put (glW l a1 b) (shares (-(width - mW l a1 b)) (glZ l a1 b) (glZ l a1 b).length) (-1) hjw
                    refine ⟨by omega, ?_⟩
                    show putL E (0 + (j : Int).toNat * 1) [.int .i64 _] = _
                    rw [Nat.zero_add, Nat.mul_one, Int.toNat_natCast, ← e, hE, Int.neg_one_mul, ← Int.sub_eq_add_neg]
                 ·obtain rfl : j = m := by omega
                  refine ex ?_
                  iterate 2 (refine sq ?_)
                  refine rg ?_
                  iterate 3 (refine st (h := O) ?_)
                  refine gD (fun g142 => ?_) (fun g142 => ?_)
                  ·try (exfalso; omega)
                   all_goals
                     refine sg (h := O) ?_
                     refine sg (h := sdN) ?_
                     iterate 2 (refine sg (h := O) ?_)
                     refine st (h := O) ?_
                     refine nl ?_
                     refine cD (fun c6 => ?_) (fun c6 => ?_)
                     ·try (exfalso; omega)
                      all_goals
                        refine sq ?_
                        refine rg ?_
                        refine st (h := O) ?_
                        refine nl ?_
                        refine bl ?_
                        first | refine J.loop2 (α := Nat) (β := List Value) (fun j E => j ≤ m ∧ E = ivs (addTo (glW l a1 b) (glZ l a1 b) (-1) j)) (fun j E => [(26, .int .i64 j)]) [(14, _), (15, _), (16, _), (18, _)] (fun j E => apR 500002 3 1 true (ocap.map Prod.fst) E ++ apR 500004 3 1 true (ocap.map sn3) S.2.2 ++ []) [(500003, _)] (fun j E => m - j) (0) (S.1) (by exact ⟨rfl, trivial⟩) (by exact ⟨rfl, rfl, rfl, rfl, trivial⟩) (by exact (by repeat' first | exact trivial | refine And.intro rfl ?_)) ?_ ?_ | refine J.loop2 (α := Nat) (β := List Value) (fun j E => j ≤ m ∧ E = ivs (addTo (glW l a1 b) (glZ l a1 b) (-1) j)) (fun j E => [(26, .int .i64 j)]) [(14, _), (15, _), (16, _), (18, _)] (fun j E => apR 500002 3 1 true (ocap.map Prod.fst) E ++ apR 500004 3 1 true (ocap.map sn3) S.2.2 ++ []) [] (fun j E => m - j) (0) (S.1) (by exact ⟨rfl, trivial⟩) (by exact ⟨rfl, rfl, rfl, rfl, trivial⟩) (by exact (by repeat' first | exact trivial | refine And.intro rfl ?_)) ?_ ?_
                        · exact ⟨Nat.zero_le _, by rw [addTo_0]; exact hS1⟩
                        ·intro j E L1 K1 e1 e2 hI
                         dsimp only [apV, apR, List.cons_append, List.nil_append] at e1 e2
                         subst e1 e2
                         obtain ⟨hj, hE⟩ := hI
                         have hEl : E.length = m := by rw [hE, ivs_length, addTo_len, l1]
                         iterate 2 (refine sq ?_)
                         refine rg ?_
                         iterate 4 (refine st (h := O) ?_)
                         refine nl ?_
                         refine cD (fun c7 => ?_) (fun c7 => ?_)
                         ·try (exfalso; omega)
                          all_goals
                            have hjm : j < m := by omega
                            have hjw : j < (glW l a1 b).length := by omega
                            have hd1 : E[0 + (j : Int).toNat * 1]? = some (.int .i64 (ints (glW l a1 b) j)) := by
                              rw [Nat.zero_add, Nat.mul_one, Int.toNat_natCast, hE]
                              exact addTo_get _ _ _ hjw
                            have hd2 : S.2.2[0 + (j : Int).toNat * 1]? = some (.int .i64 (ints (glZ l a1 b) j)) := by
                              rw [Nat.zero_add, Nat.mul_one, Int.toNat_natCast, hS3]
                              exact ivs_get (ints_get (by omega))
                            have b1 := oW _ (List.mem_of_getElem? (ints_get (xs := glW l a1 b) hjw))
                            have b2 := oZ _ (List.mem_of_getElem? (ints_get (xs := glZ l a1 b) (i := j) (by omega)))
                            refine sk ?_
                            refine sq ?_
                            refine bl ?_
                            refine dr 10 [500003, 500002, 500004] [0, 1, 2, 3, 4, 5, 6, 7, 8, 9, 1010] ?_
                            iterate 2 (refine dt (hv := by exact O) ?_)
                            refine dt (hv := by exact (sdX (z := 1))) ?_
                            refine dt (hv := by exact sdL (v := .int .i64 (ints (glW l a1 b) j)) (hv := by exact hd1)) ?_
                            iterate 2 (refine dt (hv := by exact O) ?_)
                            refine dt (hv := by exact (sdX (z := 1))) ?_
                            refine dt (hv := by exact sdL (v := .int .i64 (ints (glZ l a1 b) j)) (hv := by exact hd2)) ?_
                            refine dt (hv := by exact sdS) ?_
                            refine dt (hv := by exact (sdX (z := 1))) ?_
                            refine dso (hle := by show 0 + (j : Int).toNat * 1 + 1 ≤ E.length; omega) (hkp := by first | exact Kept.all | exact Kept.k0 | exact Kept.kY) ?_
                            refine dn ?_
                            refine bk ?_
                            refine rg ?_
                            refine st (h := O) ?_
                            refine st (h := sdA) ?_
                            refine st (h := O) ?_
                            refine nl ?_
                            refine bk2 (j + 1) (_) (by exact ⟨rfl, trivial⟩) (by exact ⟨rfl, rfl, rfl, rfl, trivial⟩) (by exact (by repeat' first | exact trivial | refine And.intro rfl ?_)) ?_ ?_
                            · omega
                            · have e := addTo_put (glW l a1 b) (glZ l a1 b) (-1) hjw
                              refine ⟨by omega, ?_⟩
                              show putL E (0 + (j : Int).toNat * 1) [.int .i64 _] = _
                              rw [Nat.zero_add, Nat.mul_one, Int.toNat_natCast, ← e, hE, Int.neg_one_mul, ← Int.sub_eq_add_neg]
                         ·obtain rfl : j = m := by omega
                          refine ex ?_
                          refine sq ?_
                          refine rg ?_
                          iterate 4 (refine st (h := O) ?_)
                          refine gD (fun g167 => ?_) (fun g167 => ?_)
                          ·try (exfalso; omega)
                           all_goals
                             refine sg (h := O) ?_
                             refine sg (h := sdN) ?_
                             iterate 2 (refine sg (h := O) ?_)
                             iterate 3 (refine st (h := O) ?_)
                             refine nl ?_
                             repeat refine J.dropF ?_
                             refine rtX fun ι hV => ?_
                             exact gluRet
                          ·try (exfalso; omega)
                           all_goals
                             iterate 4 (refine sp ?_)
                             iterate 3 (refine st (h := O) ?_)
                             refine nl ?_
                             repeat refine J.dropF ?_
                             refine rtX fun ι hV => ?_
                             exact gluRet
                     ·refine sk ?_
                      refine sq ?_
                      refine rg ?_
                      iterate 4 (refine st (h := O) ?_)
                      refine gD (fun g167 => ?_) (fun g167 => ?_)
                      ·try (exfalso; omega)
                       all_goals
                         refine sg (h := O) ?_
                         refine sg (h := sdN) ?_
                         iterate 2 (refine sg (h := O) ?_)
                         iterate 3 (refine st (h := O) ?_)
                         refine nl ?_
                         repeat refine J.dropF ?_
                         refine rtX fun ι hV => ?_
                         exact gluRet
                      ·try (exfalso; omega)
                       all_goals
                         iterate 4 (refine sp ?_)
                         iterate 3 (refine st (h := O) ?_)
                         refine nl ?_
                         repeat refine J.dropF ?_
                         refine rtX fun ι hV => ?_
                         exact gluRet
                  ·try (exfalso; omega)
                   all_goals
                     iterate 4 (refine sp ?_)
                     refine st (h := O) ?_
                     refine nl ?_
                     refine cF ?_
                     refine sk ?_
                     refine sq ?_
                     refine rg ?_
                     iterate 4 (refine st (h := O) ?_)
                     refine gD (fun g167 => ?_) (fun g167 => ?_)
                     ·try (exfalso; omega)
                      all_goals
                        refine sg (h := O) ?_
                        refine sg (h := sdN) ?_
                        iterate 2 (refine sg (h := O) ?_)
                        iterate 3 (refine st (h := O) ?_)
                        refine nl ?_
                        repeat refine J.dropF ?_
                        refine rtX fun ι hV => ?_
                        exact gluRet
                     ·try (exfalso; omega)
                      all_goals
                        iterate 4 (refine sp ?_)
                        iterate 3 (refine st (h := O) ?_)
                        refine nl ?_
                        repeat refine J.dropF ?_
                        refine rtX fun ι hV => ?_
                        exact gluRet
             ·refine sk ?_
              iterate 2 (refine sq ?_)
              refine rg ?_
              iterate 3 (refine st (h := O) ?_)
              refine gD (fun g142 => ?_) (fun g142 => ?_)
              ·try (exfalso; omega)
               all_goals
                 refine sg (h := O) ?_
                 refine sg (h := sdN) ?_
                 iterate 2 (refine sg (h := O) ?_)
                 refine st (h := O) ?_
                 refine nl ?_
                 refine cD (fun c6 => ?_) (fun c6 => ?_)
                 ·try (exfalso; omega)
                  all_goals
                    refine sq ?_
                    refine rg ?_
                    refine st (h := O) ?_
                    refine nl ?_
                    refine bl ?_
                    first | refine J.loop2 (α := Nat) (β := List Value) (fun j E => j ≤ m ∧ E = ivs (addTo (glW l a1 b) (glZ l a1 b) (-1) j)) (fun j E => [(26, .int .i64 j)]) [(14, _), (15, _), (16, _), (18, _)] (fun j E => apR 500002 3 1 true (ocap.map Prod.fst) E ++ apR 500004 3 1 true (ocap.map sn3) S.2.2 ++ []) [(500003, _)] (fun j E => m - j) (0) (S.1) (by exact ⟨rfl, trivial⟩) (by exact ⟨rfl, rfl, rfl, rfl, trivial⟩) (by exact (by repeat' first | exact trivial | refine And.intro rfl ?_)) ?_ ?_ | refine J.loop2 (α := Nat) (β := List Value) (fun j E => j ≤ m ∧ E = ivs (addTo (glW l a1 b) (glZ l a1 b) (-1) j)) (fun j E => [(26, .int .i64 j)]) [(14, _), (15, _), (16, _), (18, _)] (fun j E => apR 500002 3 1 true (ocap.map Prod.fst) E ++ apR 500004 3 1 true (ocap.map sn3) S.2.2 ++ []) [] (fun j E => m - j) (0) (S.1) (by exact ⟨rfl, trivial⟩) (by exact ⟨rfl, rfl, rfl, rfl, trivial⟩) (by exact (by repeat' first | exact trivial | refine And.intro rfl ?_)) ?_ ?_
                    · exact ⟨Nat.zero_le _, by rw [addTo_0]; exact hS1⟩
                    ·intro j E L1 K1 e1 e2 hI
                     dsimp only [apV, apR, List.cons_append, List.nil_append] at e1 e2
                     subst e1 e2
                     obtain ⟨hj, hE⟩ := hI
                     have hEl : E.length = m := by rw [hE, ivs_length, addTo_len, l1]
                     iterate 2 (refine sq ?_)
                     refine rg ?_
                     iterate 4 (refine st (h := O) ?_)
                     refine nl ?_
                     refine cD (fun c7 => ?_) (fun c7 => ?_)
                     ·try (exfalso; omega)
                      all_goals
                        have hjm : j < m := by omega
                        have hjw : j < (glW l a1 b).length := by omega
                        have hd1 : E[0 + (j : Int).toNat * 1]? = some (.int .i64 (ints (glW l a1 b) j)) := by
                          rw [Nat.zero_add, Nat.mul_one, Int.toNat_natCast, hE]
                          exact addTo_get _ _ _ hjw
                        have hd2 : S.2.2[0 + (j : Int).toNat * 1]? = some (.int .i64 (ints (glZ l a1 b) j)) := by
                          rw [Nat.zero_add, Nat.mul_one, Int.toNat_natCast, hS3]
                          exact ivs_get (ints_get (by omega))
                        have b1 := oW _ (List.mem_of_getElem? (ints_get (xs := glW l a1 b) hjw))
                        have b2 := oZ _ (List.mem_of_getElem? (ints_get (xs := glZ l a1 b) (i := j) (by omega)))
                        refine sk ?_
                        refine sq ?_
                        refine bl ?_
                        refine dr 10 [500003, 500002, 500004] [0, 1, 2, 3, 4, 5, 6, 7, 8, 9, 1010] ?_
                        iterate 2 (refine dt (hv := by exact O) ?_)
                        refine dt (hv := by exact (sdX (z := 1))) ?_
                        refine dt (hv := by exact sdL (v := .int .i64 (ints (glW l a1 b) j)) (hv := by exact hd1)) ?_
                        iterate 2 (refine dt (hv := by exact O) ?_)
                        refine dt (hv := by exact (sdX (z := 1))) ?_
                        refine dt (hv := by exact sdL (v := .int .i64 (ints (glZ l a1 b) j)) (hv := by exact hd2)) ?_
                        refine dt (hv := by exact sdS) ?_
                        refine dt (hv := by exact (sdX (z := 1))) ?_
                        refine dso (hle := by show 0 + (j : Int).toNat * 1 + 1 ≤ E.length; omega) (hkp := by first | exact Kept.all | exact Kept.k0 | exact Kept.kY) ?_
                        refine dn ?_
                        refine bk ?_
                        refine rg ?_
                        refine st (h := O) ?_
                        refine st (h := sdA) ?_
                        refine st (h := O) ?_
                        refine nl ?_
                        refine bk2 (j + 1) (_) (by exact ⟨rfl, trivial⟩) (by exact ⟨rfl, rfl, rfl, rfl, trivial⟩) (by exact (by repeat' first | exact trivial | refine And.intro rfl ?_)) ?_ ?_
                        · omega
                        · have e := addTo_put (glW l a1 b) (glZ l a1 b) (-1) hjw
                          refine ⟨by omega, ?_⟩
                          show putL E (0 + (j : Int).toNat * 1) [.int .i64 _] = _
                          rw [Nat.zero_add, Nat.mul_one, Int.toNat_natCast, ← e, hE, Int.neg_one_mul, ← Int.sub_eq_add_neg]
                     ·obtain rfl : j = m := by omega
                      refine ex ?_
                      refine sq ?_
                      refine rg ?_
                      iterate 4 (refine st (h := O) ?_)
                      refine gD (fun g167 => ?_) (fun g167 => ?_)
                      ·try (exfalso; omega)
                       all_goals
                         refine sg (h := O) ?_
                         refine sg (h := sdN) ?_
                         iterate 2 (refine sg (h := O) ?_)
                         iterate 3 (refine st (h := O) ?_)
                         refine nl ?_
                         repeat refine J.dropF ?_
                         refine rtX fun ι hV => ?_
                         exact gluRet
                      ·try (exfalso; omega)
                       all_goals
                         iterate 4 (refine sp ?_)
                         iterate 3 (refine st (h := O) ?_)
                         refine nl ?_
                         repeat refine J.dropF ?_
                         refine rtX fun ι hV => ?_
                         exact gluRet
                 ·refine sk ?_
                  refine sq ?_
                  refine rg ?_
                  iterate 4 (refine st (h := O) ?_)
                  refine gD (fun g167 => ?_) (fun g167 => ?_)
                  ·try (exfalso; omega)
                   all_goals
                     refine sg (h := O) ?_
                     refine sg (h := sdN) ?_
                     iterate 2 (refine sg (h := O) ?_)
                     iterate 3 (refine st (h := O) ?_)
                     refine nl ?_
                     repeat refine J.dropF ?_
                     refine rtX fun ι hV => ?_
                     exact gluRet
                  ·try (exfalso; omega)
                   all_goals
                     iterate 4 (refine sp ?_)
                     iterate 3 (refine st (h := O) ?_)
                     refine nl ?_
                     repeat refine J.dropF ?_
                     refine rtX fun ι hV => ?_
                     exact gluRet
              ·try (exfalso; omega)
               all_goals
                 iterate 4 (refine sp ?_)
                 refine st (h := O) ?_
                 refine nl ?_
                 refine cF ?_
                 refine sk ?_
                 refine sq ?_
                 refine rg ?_
                 iterate 4 (refine st (h := O) ?_)
                 refine gD (fun g167 => ?_) (fun g167 => ?_)
                 ·try (exfalso; omega)
                  all_goals
                    refine sg (h := O) ?_
                    refine sg (h := sdN) ?_
                    iterate 2 (refine sg (h := O) ?_)
                    iterate 3 (refine st (h := O) ?_)
                    refine nl ?_
                    repeat refine J.dropF ?_
                    refine rtX fun ι hV => ?_
                    exact gluRet
                 ·try (exfalso; omega)
                  all_goals
                    iterate 4 (refine sp ?_)
                    iterate 3 (refine st (h := O) ?_)
                    refine nl ?_
                    repeat refine J.dropF ?_
                    refine rtX fun ι hV => ?_
                    exact gluRet
          ·try (exfalso; omega)
           all_goals
             iterate 4 (refine sp ?_)
             refine st (h := O) ?_
             refine nl ?_
             refine cF ?_
             refine sk ?_
             iterate 2 (refine sq ?_)
             refine rg ?_
             iterate 3 (refine st (h := O) ?_)
             refine gD (fun g142 => ?_) (fun g142 => ?_)
             ·try (exfalso; omega)
              all_goals
                refine sg (h := O) ?_
                refine sg (h := sdN) ?_
                iterate 2 (refine sg (h := O) ?_)
                refine st (h := O) ?_
                refine nl ?_
                refine cD (fun c6 => ?_) (fun c6 => ?_)
                ·try (exfalso; omega)
                 all_goals
                   refine sq ?_
                   refine rg ?_
                   refine st (h := O) ?_
                   refine nl ?_
                   refine bl ?_
                   first | refine J.loop2 (α := Nat) (β := List Value) (fun j E => j ≤ m ∧ E = ivs (addTo (glW l a1 b) (glZ l a1 b) (-1) j)) (fun j E => [(26, .int .i64 j)]) [(14, _), (15, _), (16, _), (18, _)] (fun j E => apR 500002 3 1 true (ocap.map Prod.fst) E ++ apR 500004 3 1 true (ocap.map sn3) S.2.2 ++ []) [(500003, _)] (fun j E => m - j) (0) (S.1) (by exact ⟨rfl, trivial⟩) (by exact ⟨rfl, rfl, rfl, rfl, trivial⟩) (by exact (by repeat' first | exact trivial | refine And.intro rfl ?_)) ?_ ?_ | refine J.loop2 (α := Nat) (β := List Value) (fun j E => j ≤ m ∧ E = ivs (addTo (glW l a1 b) (glZ l a1 b) (-1) j)) (fun j E => [(26, .int .i64 j)]) [(14, _), (15, _), (16, _), (18, _)] (fun j E => apR 500002 3 1 true (ocap.map Prod.fst) E ++ apR 500004 3 1 true (ocap.map sn3) S.2.2 ++ []) [] (fun j E => m - j) (0) (S.1) (by exact ⟨rfl, trivial⟩) (by exact ⟨rfl, rfl, rfl, rfl, trivial⟩) (by exact (by repeat' first | exact trivial | refine And.intro rfl ?_)) ?_ ?_
                   · exact ⟨Nat.zero_le _, by rw [addTo_0]; exact hS1⟩
                   ·intro j E L1 K1 e1 e2 hI
                    dsimp only [apV, apR, List.cons_append, List.nil_append] at e1 e2
                    subst e1 e2
                    obtain ⟨hj, hE⟩ := hI
                    have hEl : E.length = m := by rw [hE, ivs_length, addTo_len, l1]
                    iterate 2 (refine sq ?_)
                    refine rg ?_
                    iterate 4 (refine st (h := O) ?_)
                    refine nl ?_
                    refine cD (fun c7 => ?_) (fun c7 => ?_)
                    ·try (exfalso; omega)
                     all_goals
                       have hjm : j < m := by omega
                       have hjw : j < (glW l a1 b).length := by omega
                       have hd1 : E[0 + (j : Int).toNat * 1]? = some (.int .i64 (ints (glW l a1 b) j)) := by
                         rw [Nat.zero_add, Nat.mul_one, Int.toNat_natCast, hE]
                         exact addTo_get _ _ _ hjw
                       have hd2 : S.2.2[0 + (j : Int).toNat * 1]? = some (.int .i64 (ints (glZ l a1 b) j)) := by
                         rw [Nat.zero_add, Nat.mul_one, Int.toNat_natCast, hS3]
                         exact ivs_get (ints_get (by omega))
                       have b1 := oW _ (List.mem_of_getElem? (ints_get (xs := glW l a1 b) hjw))
                       have b2 := oZ _ (List.mem_of_getElem? (ints_get (xs := glZ l a1 b) (i := j) (by omega)))
                       refine sk ?_
                       refine sq ?_
                       refine bl ?_
                       refine dr 10 [500003, 500002, 500004] [0, 1, 2, 3, 4, 5, 6, 7, 8, 9, 1010] ?_
                       iterate 2 (refine dt (hv := by exact O) ?_)
                       refine dt (hv := by exact (sdX (z := 1))) ?_
                       refine dt (hv := by exact sdL (v := .int .i64 (ints (glW l a1 b) j)) (hv := by exact hd1)) ?_
                       iterate 2 (refine dt (hv := by exact O) ?_)
                       refine dt (hv := by exact (sdX (z := 1))) ?_
                       refine dt (hv := by exact sdL (v := .int .i64 (ints (glZ l a1 b) j)) (hv := by exact hd2)) ?_
                       refine dt (hv := by exact sdS) ?_
                       refine dt (hv := by exact (sdX (z := 1))) ?_
                       refine dso (hle := by show 0 + (j : Int).toNat * 1 + 1 ≤ E.length; omega) (hkp := by first | exact Kept.all | exact Kept.k0 | exact Kept.kY) ?_
                       refine dn ?_
                       refine bk ?_
                       refine rg ?_
                       refine st (h := O) ?_
                       refine st (h := sdA) ?_
                       refine st (h := O) ?_
                       refine nl ?_
                       refine bk2 (j + 1) (_) (by exact ⟨rfl, trivial⟩) (by exact ⟨rfl, rfl, rfl, rfl, trivial⟩) (by exact (by repeat' first | exact trivial | refine And.intro rfl ?_)) ?_ ?_
                       · omega
                       · have e := addTo_put (glW l a1 b) (glZ l a1 b) (-1) hjw
                         refine ⟨by omega, ?_⟩
                         show putL E (0 + (j : Int).toNat * 1) [.int .i64 _] = _
                         rw [Nat.zero_add, Nat.mul_one, Int.toNat_natCast, ← e, hE, Int.neg_one_mul, ← Int.sub_eq_add_neg]
                    ·obtain rfl : j = m := by omega
                     refine ex ?_
                     refine sq ?_
                     refine rg ?_
                     iterate 4 (refine st (h := O) ?_)
                     refine gD (fun g167 => ?_) (fun g167 => ?_)
                     ·try (exfalso; omega)
                      all_goals
                        refine sg (h := O) ?_
                        refine sg (h := sdN) ?_
                        iterate 2 (refine sg (h := O) ?_)
                        iterate 3 (refine st (h := O) ?_)
                        refine nl ?_
                        repeat refine J.dropF ?_
                        refine rtX fun ι hV => ?_
                        exact gluRet
                     ·try (exfalso; omega)
                      all_goals
                        iterate 4 (refine sp ?_)
                        iterate 3 (refine st (h := O) ?_)
                        refine nl ?_
                        repeat refine J.dropF ?_
                        refine rtX fun ι hV => ?_
                        exact gluRet
                ·refine sk ?_
                 refine sq ?_
                 refine rg ?_
                 iterate 4 (refine st (h := O) ?_)
                 refine gD (fun g167 => ?_) (fun g167 => ?_)
                 ·try (exfalso; omega)
                  all_goals
                    refine sg (h := O) ?_
                    refine sg (h := sdN) ?_
                    iterate 2 (refine sg (h := O) ?_)
                    iterate 3 (refine st (h := O) ?_)
                    refine nl ?_
                    repeat refine J.dropF ?_
                    refine rtX fun ι hV => ?_
                    exact gluRet
                 ·try (exfalso; omega)
                  all_goals
                    iterate 4 (refine sp ?_)
                    iterate 3 (refine st (h := O) ?_)
                    refine nl ?_
                    repeat refine J.dropF ?_
                    refine rtX fun ι hV => ?_
                    exact gluRet
             ·try (exfalso; omega)
              all_goals
                iterate 4 (refine sp ?_)
                refine st (h := O) ?_
                refine nl ?_
                refine cF ?_
                refine sk ?_
                refine sq ?_
                refine rg ?_
                iterate 4 (refine st (h := O) ?_)
                refine gD (fun g167 => ?_) (fun g167 => ?_)
                ·try (exfalso; omega)
                 all_goals
                   refine sg (h := O) ?_
                   refine sg (h := sdN) ?_
                   iterate 2 (refine sg (h := O) ?_)
                   iterate 3 (refine st (h := O) ?_)
                   refine nl ?_
                   repeat refine J.dropF ?_
                   refine rtX fun ι hV => ?_
                   exact gluRet
                ·try (exfalso; omega)
                 all_goals
                   iterate 4 (refine sp ?_)
                   iterate 3 (refine st (h := O) ?_)
                   refine nl ?_
                   repeat refine J.dropF ?_
                   refine rtX fun ι hV => ?_
                   exact gluRet
        ·refine sp ?_
         refine sp ?_
         refine st (h := O) ?_
         refine nl ?_
         refine cF ?_
         refine sk ?_
         iterate 2 (refine sq ?_)
         refine rg ?_
         iterate 3 (refine st (h := O) ?_)
         refine gD (fun g111 => ?_) (fun g111 => ?_)
         ·try (exfalso; omega)
          all_goals
            refine sg (h := O) ?_
            refine sg (h := sdN) ?_
            iterate 2 (refine sg (h := O) ?_)
            refine st (h := O) ?_
            refine nl ?_
            refine cD (fun c4 => ?_) (fun c4 => ?_)
            ·try (exfalso; omega)
             all_goals
               have hsh2 : sharD (-(width - mW l a1 b)) (glZ l a1 b) = some (shares (-(width - mW l a1 b)) (glZ l a1 b) (glZ l a1 b).length) := gl_share oZ (by show (glZ l a1 b).length ≤ 1024; omega) (by unfold inB; omega) (by show sumL (glZ l a1 b) (glZ l a1 b).length ≠ 0; rw [eZ]; omega)
               refine sq ?_
               refine rg ?_
               refine st (h := O) ?_
               refine st (h := sdN) ?_
               refine st (h := O) ?_
               refine clC (h := by exact fun ι hV hl => (rShare_C _ (-(width - mW l a1 b)) (some ⟨ι 500004, 0, none⟩) (sn3 cap_o) (glZ l a1 b) (by unfold i64ok; omega) (hV.intsX rfl hS3 (by omega)) (by omega)).ofR (arg2 rfl (by rw [← l3]; rfl))) ?_
               intro u2 Y2 hQ2 hv2 hp2 hN2
               rw [hsh2] at hQ2
               obtain ⟨sa, sc, rfl, hR2⟩ := hQ2
               have hA2 := hR2 _ hN2.rows
               rw [shares_len, ← l3]
               iterate 5 (refine st (h := O) ?_)
               refine nl ?_
               refine sq ?_
               refine rg ?_
               refine st (h := O) ?_
               refine nl ?_
               refine bl ?_
               first | refine J.loop2 (α := Nat) (β := List Value) (fun j E => j ≤ m ∧ E = ivs (addTo (glW l a1 b) (shares (-(width - mW l a1 b)) (glZ l a1 b) (glZ l a1 b).length) (-1) j)) (fun j E => [(25, .int .i64 j)]) [(14, _), (15, _), (16, _), (18, _), (23, _)] (fun j E => [(500002, { elem := 3, cs := E, room := Prod.fst cap_o * 1, fz := false, flat := true })]) [(500003, _), (500004, _)] (fun j E => m - j) (0) (_) (by exact ⟨rfl, trivial⟩) (by exact ⟨rfl, rfl, rfl, rfl, rfl, trivial⟩) (by exact ⟨rfl, rfl, rfl, rfl, rfl, rfl, trivial⟩) ?_ ?_ | refine J.loop2 (α := Nat) (β := List Value) (fun j E => j ≤ m ∧ E = ivs (addTo (glW l a1 b) (shares (-(width - mW l a1 b)) (glZ l a1 b) (glZ l a1 b).length) (-1) j)) (fun j E => [(25, .int .i64 j)]) [(14, _), (15, _), (16, _), (18, _), (23, _)] (fun j E => [(500002, { elem := 3, cs := E, room := Prod.fst cap_o * 1, fz := false, flat := true })]) [(500004, _)] (fun j E => m - j) (0) (_) (by exact ⟨rfl, trivial⟩) (by exact ⟨rfl, rfl, rfl, rfl, rfl, trivial⟩) (by exact ⟨rfl, rfl, rfl, rfl, trivial⟩) ?_ ?_ | refine J.loop2 (α := Nat) (β := List Value) (fun j E => j ≤ m ∧ E = ivs (addTo (glW l a1 b) (shares (-(width - mW l a1 b)) (glZ l a1 b) (glZ l a1 b).length) (-1) j)) (fun j E => [(25, .int .i64 j)]) [(14, _), (15, _), (16, _), (18, _), (23, _)] (fun j E => [(500002, { elem := 3, cs := E, room := Prod.fst cap_o * 1, fz := false, flat := true })]) [(500003, _)] (fun j E => m - j) (0) (_) (by exact ⟨rfl, trivial⟩) (by exact ⟨rfl, rfl, rfl, rfl, rfl, trivial⟩) (by exact ⟨rfl, rfl, rfl, rfl, trivial⟩) ?_ ?_ | refine J.loop2 (α := Nat) (β := List Value) (fun j E => j ≤ m ∧ E = ivs (addTo (glW l a1 b) (shares (-(width - mW l a1 b)) (glZ l a1 b) (glZ l a1 b).length) (-1) j)) (fun j E => [(25, .int .i64 j)]) [(14, _), (15, _), (16, _), (18, _), (23, _)] (fun j E => [(500002, { elem := 3, cs := E, room := Prod.fst cap_o * 1, fz := false, flat := true })]) [] (fun j E => m - j) (0) (_) (by exact ⟨rfl, trivial⟩) (by exact ⟨rfl, rfl, rfl, rfl, rfl, trivial⟩) (by exact ⟨rfl, rfl, trivial⟩) ?_ ?_
               · exact ⟨Nat.zero_le _, by rw [addTo_0]; exact hS1⟩
               ·intro j E L1 K1 e1 e2 hI
                dsimp only [apV, apR, List.cons_append, List.nil_append] at e1 e2
                subst e1 e2
                obtain ⟨hj, hE⟩ := hI
                have hEl : E.length = m := by rw [hE, ivs_length, addTo_len, l1]
                iterate 2 (refine sq ?_)
                refine rg ?_
                iterate 4 (refine st (h := O) ?_)
                refine nl ?_
                refine cD (fun c5 => ?_) (fun c5 => ?_)
                ·have hjm : j < m := by omega
                 have hjw : j < (glW l a1 b).length := by omega
                 have hd1 : E[0 + (j : Int).toNat * 1]? = some (.int .i64 (ints (glW l a1 b) j)) := by
                   rw [Nat.zero_add, Nat.mul_one, Int.toNat_natCast, hE]
                   exact addTo_get _ _ _ hjw
                 obtain ⟨sb, so, rfl, hrs⟩ := hA2.rd (by rw [shares_len]; omega)
                 have q1 : look (F.add Y2) ⟨sb, so + (j : Int).toNat * 1, none⟩ = some (.int .i64 (ints (shares (-(width - mW l a1 b)) (glZ l a1 b) (glZ l a1 b).length) j)) := by rw [Nat.mul_one]; exact hrs j _ (ints_get (by rw [shares_len]; omega))
                 have b1 := oW _ (List.mem_of_getElem? (ints_get (xs := glW l a1 b) hjw))
                 have b2 := shares_bd (-(width - mW l a1 b)) (glZ l a1 b) (k := (glZ l a1 b).length) (j := j) (by omega)
                 refine sk ?_
                 refine sq ?_
                 refine bl ?_
                 refine dr 10 [500002, 500003, 500004] [0, 1, 2, 3, 4, 5, 6, 7, 8, 9, 1010] ?_
                 iterate 2 (refine dt (hv := by exact O) ?_)
                 refine dt (hv := by exact (sdX (z := 1))) ?_
                 refine dt (hv := by exact sdL (v := .int .i64 (ints (glW l a1 b) j)) (hv := by exact hd1)) ?_
                 iterate 2 (refine dt (hv := by exact O) ?_)
                 refine dt (hv := by exact (sdX (z := 1))) ?_
                 refine dt (hv := by exact (by first | exact sdLG | exact sdW)) ?_
                 refine dt (hv := by exact sdS) ?_
                 refine dt (hv := by exact (sdX (z := 1))) ?_
                 refine dso (hle := by show 0 + (j : Int).toNat * 1 + 1 ≤ E.length; omega) (hkp := by first | exact Kept.all | exact Kept.k0 | exact Kept.kY) ?_
                 refine dn ?_
                 refine bk ?_
                 refine rg ?_
                 refine st (h := O) ?_
                 refine st (h := sdA) ?_
                 refine st (h := O) ?_
                 refine nl ?_
                 refine bk2 (j + 1) (_) (by exact ⟨rfl, trivial⟩) (by exact ⟨rfl, rfl, rfl, rfl, rfl, trivial⟩) (by exact (by repeat' first | exact trivial | refine And.intro rfl ?_)) ?_ ?_
                 · omega
                 · have e := addTo_put (glW l a1 b) (shares (-(width - mW l a1 b)) (glZ l a1 b) (glZ l a1 b).length) (-1) hjw
                   refine ⟨by omega, ?_⟩
                   show putL E (0 + (j : Int).toNat * 1) [.int .i64 _] = _
                   rw [Nat.zero_add, Nat.mul_one, Int.toNat_natCast, ← e, hE, Int.neg_one_mul, ← Int.sub_eq_add_neg]
                ·obtain rfl : j = m := by omega
                 refine ex ?_
                 iterate 2 (refine sq ?_)
                 refine rg ?_
                 iterate 3 (refine st (h := O) ?_)
                 refine gD (fun g142 => ?_) (fun g142 => ?_)
                 ·try (exfalso; omega)
                  all_goals
                    refine sg (h := O) ?_
                    refine sg (h := sdN) ?_
                    iterate 2 (refine sg (h := O) ?_)
                    refine st (h := O) ?_
                    refine nl ?_
                    refine cD (fun c6 => ?_) (fun c6 => ?_)
                    ·try (exfalso; omega)
                     all_goals
                       refine sq ?_
                       refine rg ?_
                       refine st (h := O) ?_
                       refine nl ?_
                       refine bl ?_
                       first | refine J.loop2 (α := Nat) (β := List Value) (fun j E => j ≤ m ∧ E = ivs (addTo (glW l a1 b) (glZ l a1 b) (-1) j)) (fun j E => [(26, .int .i64 j)]) [(14, _), (15, _), (16, _), (18, _)] (fun j E => apR 500002 3 1 true (ocap.map Prod.fst) E ++ apR 500004 3 1 true (ocap.map sn3) S.2.2 ++ []) [(500003, _)] (fun j E => m - j) (0) (S.1) (by exact ⟨rfl, trivial⟩) (by exact ⟨rfl, rfl, rfl, rfl, trivial⟩) (by exact (by repeat' first | exact trivial | refine And.intro rfl ?_)) ?_ ?_ | refine J.loop2 (α := Nat) (β := List Value) (fun j E => j ≤ m ∧ E = ivs (addTo (glW l a1 b) (glZ l a1 b) (-1) j)) (fun j E => [(26, .int .i64 j)]) [(14, _), (15, _), (16, _), (18, _)] (fun j E => apR 500002 3 1 true (ocap.map Prod.fst) E ++ apR 500004 3 1 true (ocap.map sn3) S.2.2 ++ []) [] (fun j E => m - j) (0) (S.1) (by exact ⟨rfl, trivial⟩) (by exact ⟨rfl, rfl, rfl, rfl, trivial⟩) (by exact (by repeat' first | exact trivial | refine And.intro rfl ?_)) ?_ ?_
                       · exact ⟨Nat.zero_le _, by rw [addTo_0]; exact hS1⟩
                       ·intro j E L1 K1 e1 e2 hI
                        dsimp only [apV, apR, List.cons_append, List.nil_append] at e1 e2
                        subst e1 e2
                        obtain ⟨hj, hE⟩ := hI
                        have hEl : E.length = m := by rw [hE, ivs_length, addTo_len, l1]
                        iterate 2 (refine sq ?_)
                        refine rg ?_
                        iterate 4 (refine st (h := O) ?_)
                        refine nl ?_
                        refine cD (fun c7 => ?_) (fun c7 => ?_)
                        ·try (exfalso; omega)
                         all_goals
                           have hjm : j < m := by omega
                           have hjw : j < (glW l a1 b).length := by omega
                           have hd1 : E[0 + (j : Int).toNat * 1]? = some (.int .i64 (ints (glW l a1 b) j)) := by
                             rw [Nat.zero_add, Nat.mul_one, Int.toNat_natCast, hE]
                             exact addTo_get _ _ _ hjw
                           have hd2 : S.2.2[0 + (j : Int).toNat * 1]? = some (.int .i64 (ints (glZ l a1 b) j)) := by
                             rw [Nat.zero_add, Nat.mul_one, Int.toNat_natCast, hS3]
                             exact ivs_get (ints_get (by omega))
                           have b1 := oW _ (List.mem_of_getElem? (ints_get (xs := glW l a1 b) hjw))
                           have b2 := oZ _ (List.mem_of_getElem? (ints_get (xs := glZ l a1 b) (i := j) (by omega)))
                           refine sk ?_
                           refine sq ?_
                           refine bl ?_
                           refine dr 10 [500003, 500002, 500004] [0, 1, 2, 3, 4, 5, 6, 7, 8, 9, 1010] ?_
                           iterate 2 (refine dt (hv := by exact O) ?_)
                           refine dt (hv := by exact (sdX (z := 1))) ?_
                           refine dt (hv := by exact sdL (v := .int .i64 (ints (glW l a1 b) j)) (hv := by exact hd1)) ?_
                           iterate 2 (refine dt (hv := by exact O) ?_)
                           refine dt (hv := by exact (sdX (z := 1))) ?_
                           refine dt (hv := by exact sdL (v := .int .i64 (ints (glZ l a1 b) j)) (hv := by exact hd2)) ?_
                           refine dt (hv := by exact sdS) ?_
                           refine dt (hv := by exact (sdX (z := 1))) ?_
                           refine dso (hle := by show 0 + (j : Int).toNat * 1 + 1 ≤ E.length; omega) (hkp := by first | exact Kept.all | exact Kept.k0 | exact Kept.kY) ?_
                           refine dn ?_
                           refine bk ?_
                           refine rg ?_
                           refine st (h := O) ?_
                           refine st (h := sdA) ?_
                           refine st (h := O) ?_
                           refine nl ?_
                           refine bk2 (j + 1) (_) (by exact ⟨rfl, trivial⟩) (by exact ⟨rfl, rfl, rfl, rfl, trivial⟩) (by exact (by repeat' first | exact trivial | refine And.intro rfl ?_)) ?_ ?_
                           · omega
                           · have e := addTo_put (glW l a1 b) (glZ l a1 b) (-1) hjw
                             refine ⟨by omega, ?_⟩
                             show putL E (0 + (j : Int).toNat * 1) [.int .i64 _] = _
                             rw [Nat.zero_add, Nat.mul_one, Int.toNat_natCast, ← e, hE, Int.neg_one_mul, ← Int.sub_eq_add_neg]
                        ·obtain rfl : j = m := by omega
                         refine ex ?_
                         refine sq ?_
                         refine rg ?_
                         iterate 4 (refine st (h := O) ?_)
                         refine gD (fun g167 => ?_) (fun g167 => ?_)
                         ·try (exfalso; omega)
                          all_goals
                            refine sg (h := O) ?_
                            refine sg (h := sdN) ?_
                            iterate 2 (refine sg (h := O) ?_)
                            iterate 3 (refine st (h := O) ?_)
                            refine nl ?_
                            repeat refine J.dropF ?_
                            refine rtX fun ι hV => ?_
                            exact gluRet
                         ·try (exfalso; omega)
                          all_goals
                            iterate 4 (refine sp ?_)
                            iterate 3 (refine st (h := O) ?_)
                            refine nl ?_
                            repeat refine J.dropF ?_
                            refine rtX fun ι hV => ?_
                            exact gluRet
                    ·refine sk ?_
                     refine sq ?_
                     refine rg ?_
                     iterate 4 (refine st (h := O) ?_)
                     refine gD (fun g167 => ?_) (fun g167 => ?_)
                     ·try (exfalso; omega)
                      all_goals
                        refine sg (h := O) ?_
                        refine sg (h := sdN) ?_
                        iterate 2 (refine sg (h := O) ?_)
                        iterate 3 (refine st (h := O) ?_)
                        refine nl ?_
                        repeat refine J.dropF ?_
                        refine rtX fun ι hV => ?_
                        exact gluRet
                     ·try (exfalso; omega)
                      all_goals
                        iterate 4 (refine sp ?_)
                        iterate 3 (refine st (h := O) ?_)
                        refine nl ?_
                        repeat refine J.dropF ?_
                        refine rtX fun ι hV => ?_
                        exact gluRet
                 ·try (exfalso; omega)
                  all_goals
                    iterate 4 (refine sp ?_)
                    refine st (h := O) ?_
                    refine nl ?_
                    refine cF ?_
                    refine sk ?_
                    refine sq ?_
                    refine rg ?_
                    iterate 4 (refine st (h := O) ?_)
                    refine gD (fun g167 => ?_) (fun g167 => ?_)
                    ·try (exfalso; omega)
                     all_goals
                       refine sg (h := O) ?_
                       refine sg (h := sdN) ?_
                       iterate 2 (refine sg (h := O) ?_)
                       iterate 3 (refine st (h := O) ?_)
                       refine nl ?_
                       repeat refine J.dropF ?_
                       refine rtX fun ι hV => ?_
                       exact gluRet
                    ·try (exfalso; omega)
                     all_goals
                       iterate 4 (refine sp ?_)
                       iterate 3 (refine st (h := O) ?_)
                       refine nl ?_
                       repeat refine J.dropF ?_
                       refine rtX fun ι hV => ?_
                       exact gluRet
            ·refine sk ?_
             iterate 2 (refine sq ?_)
             refine rg ?_
             iterate 3 (refine st (h := O) ?_)
             refine gD (fun g142 => ?_) (fun g142 => ?_)
             ·try (exfalso; omega)
              all_goals
                refine sg (h := O) ?_
                refine sg (h := sdN) ?_
                iterate 2 (refine sg (h := O) ?_)
                refine st (h := O) ?_
                refine nl ?_
                refine cD (fun c6 => ?_) (fun c6 => ?_)
                ·try (exfalso; omega)
                 all_goals
                   refine sq ?_
                   refine rg ?_
                   refine st (h := O) ?_
                   refine nl ?_
                   refine bl ?_
                   first | refine J.loop2 (α := Nat) (β := List Value) (fun j E => j ≤ m ∧ E = ivs (addTo (glW l a1 b) (glZ l a1 b) (-1) j)) (fun j E => [(26, .int .i64 j)]) [(14, _), (15, _), (16, _), (18, _)] (fun j E => apR 500002 3 1 true (ocap.map Prod.fst) E ++ apR 500004 3 1 true (ocap.map sn3) S.2.2 ++ []) [(500003, _)] (fun j E => m - j) (0) (S.1) (by exact ⟨rfl, trivial⟩) (by exact ⟨rfl, rfl, rfl, rfl, trivial⟩) (by exact (by repeat' first | exact trivial | refine And.intro rfl ?_)) ?_ ?_ | refine J.loop2 (α := Nat) (β := List Value) (fun j E => j ≤ m ∧ E = ivs (addTo (glW l a1 b) (glZ l a1 b) (-1) j)) (fun j E => [(26, .int .i64 j)]) [(14, _), (15, _), (16, _), (18, _)] (fun j E => apR 500002 3 1 true (ocap.map Prod.fst) E ++ apR 500004 3 1 true (ocap.map sn3) S.2.2 ++ []) [] (fun j E => m - j) (0) (S.1) (by exact ⟨rfl, trivial⟩) (by exact ⟨rfl, rfl, rfl, rfl, trivial⟩) (by exact (by repeat' first | exact trivial | refine And.intro rfl ?_)) ?_ ?_
                   · exact ⟨Nat.zero_le _, by rw [addTo_0]; exact hS1⟩
                   ·intro j E L1 K1 e1 e2 hI
                    dsimp only [apV, apR, List.cons_append, List.nil_append] at e1 e2
                    subst e1 e2
                    obtain ⟨hj, hE⟩ := hI
                    have hEl : E.length = m := by rw [hE, ivs_length, addTo_len, l1]
                    iterate 2 (refine sq ?_)
                    refine rg ?_
                    iterate 4 (refine st (h := O) ?_)
                    refine nl ?_
                    refine cD (fun c7 => ?_) (fun c7 => ?_)
                    ·try (exfalso; omega)
                     all_goals
                       have hjm : j < m := by omega
                       have hjw : j < (glW l a1 b).length := by omega
                       have hd1 : E[0 + (j : Int).toNat * 1]? = some (.int .i64 (ints (glW l a1 b) j)) := by
                         rw [Nat.zero_add, Nat.mul_one, Int.toNat_natCast, hE]
                         exact addTo_get _ _ _ hjw
                       have hd2 : S.2.2[0 + (j : Int).toNat * 1]? = some (.int .i64 (ints (glZ l a1 b) j)) := by
                         rw [Nat.zero_add, Nat.mul_one, Int.toNat_natCast, hS3]
                         exact ivs_get (ints_get (by omega))
                       have b1 := oW _ (List.mem_of_getElem? (ints_get (xs := glW l a1 b) hjw))
                       have b2 := oZ _ (List.mem_of_getElem? (ints_get (xs := glZ l a1 b) (i := j) (by omega)))
                       refine sk ?_
                       refine sq ?_
                       refine bl ?_
                       refine dr 10 [500003, 500002, 500004] [0, 1, 2, 3, 4, 5, 6, 7, 8, 9, 1010] ?_
                       iterate 2 (refine dt (hv := by exact O) ?_)
                       refine dt (hv := by exact (sdX (z := 1))) ?_
                       refine dt (hv := by exact sdL (v := .int .i64 (ints (glW l a1 b) j)) (hv := by exact hd1)) ?_
                       iterate 2 (refine dt (hv := by exact O) ?_)
                       refine dt (hv := by exact (sdX (z := 1))) ?_
                       refine dt (hv := by exact sdL (v := .int .i64 (ints (glZ l a1 b) j)) (hv := by exact hd2)) ?_
                       refine dt (hv := by exact sdS) ?_
                       refine dt (hv := by exact (sdX (z := 1))) ?_
                       refine dso (hle := by show 0 + (j : Int).toNat * 1 + 1 ≤ E.length; omega) (hkp := by first | exact Kept.all | exact Kept.k0 | exact Kept.kY) ?_
                       refine dn ?_
                       refine bk ?_
                       refine rg ?_
                       refine st (h := O) ?_
                       refine st (h := sdA) ?_
                       refine st (h := O) ?_
                       refine nl ?_
                       refine bk2 (j + 1) (_) (by exact ⟨rfl, trivial⟩) (by exact ⟨rfl, rfl, rfl, rfl, trivial⟩) (by exact (by repeat' first | exact trivial | refine And.intro rfl ?_)) ?_ ?_
                       · omega
                       · have e := addTo_put (glW l a1 b) (glZ l a1 b) (-1) hjw
                         refine ⟨by omega, ?_⟩
                         show putL E (0 + (j : Int).toNat * 1) [.int .i64 _] = _
                         rw [Nat.zero_add, Nat.mul_one, Int.toNat_natCast, ← e, hE, Int.neg_one_mul, ← Int.sub_eq_add_neg]
                    ·obtain rfl : j = m := by omega
                     refine ex ?_
                     refine sq ?_
                     refine rg ?_
                     iterate 4 (refine st (h := O) ?_)
                     refine gD (fun g167 => ?_) (fun g167 => ?_)
                     ·try (exfalso; omega)
                      all_goals
                        refine sg (h := O) ?_
                        refine sg (h := sdN) ?_
                        iterate 2 (refine sg (h := O) ?_)
                        iterate 3 (refine st (h := O) ?_)
                        refine nl ?_
                        repeat refine J.dropF ?_
                        refine rtX fun ι hV => ?_
                        exact gluRet
                     ·try (exfalso; omega)
                      all_goals
                        iterate 4 (refine sp ?_)
                        iterate 3 (refine st (h := O) ?_)
                        refine nl ?_
                        repeat refine J.dropF ?_
                        refine rtX fun ι hV => ?_
                        exact gluRet
                ·refine sk ?_
                 refine sq ?_
                 refine rg ?_
                 iterate 4 (refine st (h := O) ?_)
                 refine gD (fun g167 => ?_) (fun g167 => ?_)
                 ·try (exfalso; omega)
                  all_goals
                    refine sg (h := O) ?_
                    refine sg (h := sdN) ?_
                    iterate 2 (refine sg (h := O) ?_)
                    iterate 3 (refine st (h := O) ?_)
                    refine nl ?_
                    repeat refine J.dropF ?_
                    refine rtX fun ι hV => ?_
                    exact gluRet
                 ·try (exfalso; omega)
                  all_goals
                    iterate 4 (refine sp ?_)
                    iterate 3 (refine st (h := O) ?_)
                    refine nl ?_
                    repeat refine J.dropF ?_
                    refine rtX fun ι hV => ?_
                    exact gluRet
             ·try (exfalso; omega)
              all_goals
                iterate 4 (refine sp ?_)
                refine st (h := O) ?_
                refine nl ?_
                refine cF ?_
                refine sk ?_
                refine sq ?_
                refine rg ?_
                iterate 4 (refine st (h := O) ?_)
                refine gD (fun g167 => ?_) (fun g167 => ?_)
                ·try (exfalso; omega)
                 all_goals
                   refine sg (h := O) ?_
                   refine sg (h := sdN) ?_
                   iterate 2 (refine sg (h := O) ?_)
                   iterate 3 (refine st (h := O) ?_)
                   refine nl ?_
                   repeat refine J.dropF ?_
                   refine rtX fun ι hV => ?_
                   exact gluRet
                ·try (exfalso; omega)
                 all_goals
                   iterate 4 (refine sp ?_)
                   iterate 3 (refine st (h := O) ?_)
                   refine nl ?_
                   repeat refine J.dropF ?_
                   refine rtX fun ι hV => ?_
                   exact gluRet
         ·try (exfalso; omega)
          all_goals
            iterate 4 (refine sp ?_)
            refine st (h := O) ?_
            refine nl ?_
            refine cF ?_
            refine sk ?_
            iterate 2 (refine sq ?_)
            refine rg ?_
            iterate 3 (refine st (h := O) ?_)
            refine gD (fun g142 => ?_) (fun g142 => ?_)
            ·try (exfalso; omega)
             all_goals
               refine sg (h := O) ?_
               refine sg (h := sdN) ?_
               iterate 2 (refine sg (h := O) ?_)
               refine st (h := O) ?_
               refine nl ?_
               refine cD (fun c6 => ?_) (fun c6 => ?_)
               ·try (exfalso; omega)
                all_goals
                  refine sq ?_
                  refine rg ?_
                  refine st (h := O) ?_
                  refine nl ?_
                  refine bl ?_
                  first | refine J.loop2 (α := Nat) (β := List Value) (fun j E => j ≤ m ∧ E = ivs (addTo (glW l a1 b) (glZ l a1 b) (-1) j)) (fun j E => [(26, .int .i64 j)]) [(14, _), (15, _), (16, _), (18, _)] (fun j E => apR 500002 3 1 true (ocap.map Prod.fst) E ++ apR 500004 3 1 true (ocap.map sn3) S.2.2 ++ []) [(500003, _)] (fun j E => m - j) (0) (S.1) (by exact ⟨rfl, trivial⟩) (by exact ⟨rfl, rfl, rfl, rfl, trivial⟩) (by exact (by repeat' first | exact trivial | refine And.intro rfl ?_)) ?_ ?_ | refine J.loop2 (α := Nat) (β := List Value) (fun j E => j ≤ m ∧ E = ivs (addTo (glW l a1 b) (glZ l a1 b) (-1) j)) (fun j E => [(26, .int .i64 j)]) [(14, _), (15, _), (16, _), (18, _)] (fun j E => apR 500002 3 1 true (ocap.map Prod.fst) E ++ apR 500004 3 1 true (ocap.map sn3) S.2.2 ++ []) [] (fun j E => m - j) (0) (S.1) (by exact ⟨rfl, trivial⟩) (by exact ⟨rfl, rfl, rfl, rfl, trivial⟩) (by exact (by repeat' first | exact trivial | refine And.intro rfl ?_)) ?_ ?_
                  · exact ⟨Nat.zero_le _, by rw [addTo_0]; exact hS1⟩
                  ·intro j E L1 K1 e1 e2 hI
                   dsimp only [apV, apR, List.cons_append, List.nil_append] at e1 e2
                   subst e1 e2
                   obtain ⟨hj, hE⟩ := hI
                   have hEl : E.length = m := by rw [hE, ivs_length, addTo_len, l1]
                   iterate 2 (refine sq ?_)
                   refine rg ?_
                   iterate 4 (refine st (h := O) ?_)
                   refine nl ?_
                   refine cD (fun c7 => ?_) (fun c7 => ?_)
                   ·try (exfalso; omega)
                    all_goals
                      have hjm : j < m := by omega
                      have hjw : j < (glW l a1 b).length := by omega
                      have hd1 : E[0 + (j : Int).toNat * 1]? = some (.int .i64 (ints (glW l a1 b) j)) := by
                        rw [Nat.zero_add, Nat.mul_one, Int.toNat_natCast, hE]
                        exact addTo_get _ _ _ hjw
                      have hd2 : S.2.2[0 + (j : Int).toNat * 1]? = some (.int .i64 (ints (glZ l a1 b) j)) := by
                        rw [Nat.zero_add, Nat.mul_one, Int.toNat_natCast, hS3]
                        exact ivs_get (ints_get (by omega))
                      have b1 := oW _ (List.mem_of_getElem? (ints_get (xs := glW l a1 b) hjw))
                      have b2 := oZ _ (List.mem_of_getElem? (ints_get (xs := glZ l a1 b) (i := j) (by omega)))
                      refine sk ?_
                      refine sq ?_
                      refine bl ?_
                      refine dr 10 [500003, 500002, 500004] [0, 1, 2, 3, 4, 5, 6, 7, 8, 9, 1010] ?_
                      iterate 2 (refine dt (hv := by exact O) ?_)
                      refine dt (hv := by exact (sdX (z := 1))) ?_
                      refine dt (hv := by exact sdL (v := .int .i64 (ints (glW l a1 b) j)) (hv := by exact hd1)) ?_
                      iterate 2 (refine dt (hv := by exact O) ?_)
                      refine dt (hv := by exact (sdX (z := 1))) ?_
                      refine dt (hv := by exact sdL (v := .int .i64 (ints (glZ l a1 b) j)) (hv := by exact hd2)) ?_
                      refine dt (hv := by exact sdS) ?_
                      refine dt (hv := by exact (sdX (z := 1))) ?_
                      refine dso (hle := by show 0 + (j : Int).toNat * 1 + 1 ≤ E.length; omega) (hkp := by first | exact Kept.all | exact Kept.k0 | exact Kept.kY) ?_
                      refine dn ?_
                      refine bk ?_
                      refine rg ?_
                      refine st (h := O) ?_
                      refine st (h := sdA) ?_
                      refine st (h := O) ?_
                      refine nl ?_
                      refine bk2 (j + 1) (_) (by exact ⟨rfl, trivial⟩) (by exact ⟨rfl, rfl, rfl, rfl, trivial⟩) (by exact (by repeat' first | exact trivial | refine And.intro rfl ?_)) ?_ ?_
                      · omega
                      · have e := addTo_put (glW l a1 b) (glZ l a1 b) (-1) hjw
                        refine ⟨by omega, ?_⟩
                        show putL E (0 + (j : Int).toNat * 1) [.int .i64 _] = _
                        rw [Nat.zero_add, Nat.mul_one, Int.toNat_natCast, ← e, hE, Int.neg_one_mul, ← Int.sub_eq_add_neg]
                   ·obtain rfl : j = m := by omega
                    refine ex ?_
                    refine sq ?_
                    refine rg ?_
                    iterate 4 (refine st (h := O) ?_)
                    refine gD (fun g167 => ?_) (fun g167 => ?_)
                    ·try (exfalso; omega)
                     all_goals
                       refine sg (h := O) ?_
                       refine sg (h := sdN) ?_
                       iterate 2 (refine sg (h := O) ?_)
                       iterate 3 (refine st (h := O) ?_)
                       refine nl ?_
                       repeat refine J.dropF ?_
                       refine rtX fun ι hV => ?_
                       exact gluRet
                    ·try (exfalso; omega)
                     all_goals
                       iterate 4 (refine sp ?_)
                       iterate 3 (refine st (h := O) ?_)
                       refine nl ?_
                       repeat refine J.dropF ?_
                       refine rtX fun ι hV => ?_
                       exact gluRet
               ·refine sk ?_
                refine sq ?_
                refine rg ?_
                iterate 4 (refine st (h := O) ?_)
                refine gD (fun g167 => ?_) (fun g167 => ?_)
                ·try (exfalso; omega)
                 all_goals
                   refine sg (h := O) ?_
                   refine sg (h := sdN) ?_
                   iterate 2 (refine sg (h := O) ?_)
                   iterate 3 (refine st (h := O) ?_)
                   refine nl ?_
                   repeat refine J.dropF ?_
                   refine rtX fun ι hV => ?_
                   exact gluRet
                ·try (exfalso; omega)
                 all_goals
                   iterate 4 (refine sp ?_)
                   iterate 3 (refine st (h := O) ?_)
                   refine nl ?_
                   repeat refine J.dropF ?_
                   refine rtX fun ι hV => ?_
                   exact gluRet
            ·try (exfalso; omega)
             all_goals
               iterate 4 (refine sp ?_)
               refine st (h := O) ?_
               refine nl ?_
               refine cF ?_
               refine sk ?_
               refine sq ?_
               refine rg ?_
               iterate 4 (refine st (h := O) ?_)
               refine gD (fun g167 => ?_) (fun g167 => ?_)
               ·try (exfalso; omega)
                all_goals
                  refine sg (h := O) ?_
                  refine sg (h := sdN) ?_
                  iterate 2 (refine sg (h := O) ?_)
                  iterate 3 (refine st (h := O) ?_)
                  refine nl ?_
                  repeat refine J.dropF ?_
                  refine rtX fun ι hV => ?_
                  exact gluRet
               ·try (exfalso; omega)
                all_goals
                  iterate 4 (refine sp ?_)
                  iterate 3 (refine st (h := O) ?_)
                  refine nl ?_
                  repeat refine J.dropF ?_
                  refine rtX fun ι hV => ?_
                  exact gluRet
       ·refine sp ?_
        refine sp ?_
        iterate 2 (refine st (h := O) ?_)
        iterate 2 (refine sp ?_)
        refine st (h := O) ?_
        refine nl ?_
        refine cF ?_
        refine sk ?_
        iterate 2 (refine sq ?_)
        refine rg ?_
        iterate 3 (refine st (h := O) ?_)
        refine gD (fun g111 => ?_) (fun g111 => ?_)
        ·try (exfalso; omega)
         all_goals
           refine sg (h := O) ?_
           refine sg (h := sdN) ?_
           iterate 2 (refine sg (h := O) ?_)
           refine st (h := O) ?_
           refine nl ?_
           refine cD (fun c4 => ?_) (fun c4 => ?_)
           ·try (exfalso; omega)
            all_goals
              have hsh2 : sharD (-(width - mW l a1 b)) (glZ l a1 b) = some (shares (-(width - mW l a1 b)) (glZ l a1 b) (glZ l a1 b).length) := gl_share oZ (by show (glZ l a1 b).length ≤ 1024; omega) (by unfold inB; omega) (by show sumL (glZ l a1 b) (glZ l a1 b).length ≠ 0; rw [eZ]; omega)
              refine sq ?_
              refine rg ?_
              refine st (h := O) ?_
              refine st (h := sdN) ?_
              refine st (h := O) ?_
              refine clC (h := by exact fun ι hV hl => (rShare_C _ (-(width - mW l a1 b)) (some ⟨ι 500004, 0, none⟩) (sn3 cap_o) (glZ l a1 b) (by unfold i64ok; omega) (hV.intsX rfl hS3 (by omega)) (by omega)).ofR (arg2 rfl (by rw [← l3]; rfl))) ?_
              intro u2 Y2 hQ2 hv2 hp2 hN2
              rw [hsh2] at hQ2
              obtain ⟨sa, sc, rfl, hR2⟩ := hQ2
              have hA2 := hR2 _ hN2.rows
              rw [shares_len, ← l3]
              iterate 5 (refine st (h := O) ?_)
              refine nl ?_
              refine sq ?_
              refine rg ?_
              refine st (h := O) ?_
              refine nl ?_
              refine bl ?_
              first | refine J.loop2 (α := Nat) (β := List Value) (fun j E => j ≤ m ∧ E = ivs (addTo (glW l a1 b) (shares (-(width - mW l a1 b)) (glZ l a1 b) (glZ l a1 b).length) (-1) j)) (fun j E => [(25, .int .i64 j)]) [(14, _), (15, _), (16, _), (18, _), (23, _)] (fun j E => [(500002, { elem := 3, cs := E, room := Prod.fst cap_o * 1, fz := false, flat := true })]) [(500003, _), (500004, _)] (fun j E => m - j) (0) (_) (by exact ⟨rfl, trivial⟩) (by exact ⟨rfl, rfl, rfl, rfl, rfl, trivial⟩) (by exact ⟨rfl, rfl, rfl, rfl, rfl, rfl, trivial⟩) ?_ ?_ | refine J.loop2 (α := Nat) (β := List Value) (fun j E => j ≤ m ∧ E = ivs (addTo (glW l a1 b) (shares (-(width - mW l a1 b)) (glZ l a1 b) (glZ l a1 b).length) (-1) j)) (fun j E => [(25, .int .i64 j)]) [(14, _), (15, _), (16, _), (18, _), (23, _)] (fun j E => [(500002, { elem := 3, cs := E, room := Prod.fst cap_o * 1, fz := false, flat := true })]) [(500004, _)] (fun j E => m - j) (0) (_) (by exact ⟨rfl, trivial⟩) (by exact ⟨rfl, rfl, rfl, rfl, rfl, trivial⟩) (by exact ⟨rfl, rfl, rfl, rfl, trivial⟩) ?_ ?_ | refine J.loop2 (α := Nat) (β := List Value) (fun j E => j ≤ m ∧ E = ivs (addTo (glW l a1 b) (shares (-(width - mW l a1 b)) (glZ l a1 b) (glZ l a1 b).length) (-1) j)) (fun j E => [(25, .int .i64 j)]) [(14, _), (15, _), (16, _), (18, _), (23, _)] (fun j E => [(500002, { elem := 3, cs := E, room := Prod.fst cap_o * 1, fz := false, flat := true })]) [(500003, _)] (fun j E => m - j) (0) (_) (by exact ⟨rfl, trivial⟩) (by exact ⟨rfl, rfl, rfl, rfl, rfl, trivial⟩) (by exact ⟨rfl, rfl, rfl, rfl, trivial⟩) ?_ ?_ | refine J.loop2 (α := Nat) (β := List Value) (fun j E => j ≤ m ∧ E = ivs (addTo (glW l a1 b) (shares (-(width - mW l a1 b)) (glZ l a1 b) (glZ l a1 b).length) (-1) j)) (fun j E => [(25, .int .i64 j)]) [(14, _), (15, _), (16, _), (18, _), (23, _)] (fun j E => [(500002, { elem := 3, cs := E, room := Prod.fst cap_o * 1, fz := false, flat := true })]) [] (fun j E => m - j) (0) (_) (by exact ⟨rfl, trivial⟩) (by exact ⟨rfl, rfl, rfl, rfl, rfl, trivial⟩) (by exact ⟨rfl, rfl, trivial⟩) ?_ ?_
              · exact ⟨Nat.zero_le _, by rw [addTo_0]; exact hS1⟩
              ·intro j E L1 K1 e1 e2 hI
               dsimp only [apV, apR, List.cons_append, List.nil_append] at e1 e2
               subst e1 e2
               obtain ⟨hj, hE⟩ := hI
               have hEl : E.length = m := by rw [hE, ivs_length, addTo_len, l1]
               iterate 2 (refine sq ?_)
               refine rg ?_
               iterate 4 (refine st (h := O) ?_)
               refine nl ?_
               refine cD (fun c5 => ?_) (fun c5 => ?_)
               ·have hjm : j < m := by omega
                have hjw : j < (glW l a1 b).length := by omega
                have hd1 : E[0 + (j : Int).toNat * 1]? = some (.int .i64 (ints (glW l a1 b) j)) := by
                  rw [Nat.zero_add, Nat.mul_one, Int.toNat_natCast, hE]
                  exact addTo_get _ _ _ hjw
                obtain ⟨sb, so, rfl, hrs⟩ := hA2.rd (by rw [shares_len]; omega)
                have q1 : look (F.add Y2) ⟨sb, so + (j : Int).toNat * 1, none⟩ = some (.int .i64 (ints (shares (-(width - mW l a1 b)) (glZ l a1 b) (glZ l a1 b).length) j)) := by rw [Nat.mul_one]; exact hrs j _ (ints_get (by rw [shares_len]; omega))
                have b1 := oW _ (List.mem_of_getElem? (ints_get (xs := glW l a1 b) hjw))
                have b2 := shares_bd (-(width - mW l a1 b)) (glZ l a1 b) (k := (glZ l a1 b).length) (j := j) (by omega)
                refine sk ?_
                refine sq ?_
                refine bl ?_
                refine dr 10 [500002, 500003, 500004] [0, 1, 2, 3, 4, 5, 6, 7, 8, 9, 1010] ?_
                iterate 2 (refine dt (hv := by exact O) ?_)
                refine dt (hv := by exact (sdX (z := 1))) ?_
                refine dt (hv := by exact sdL (v := .int .i64 (ints (glW l a1 b) j)) (hv := by exact hd1)) ?_
                iterate 2 (refine dt (hv := by exact O) ?_)
                refine dt (hv := by exact (sdX (z := 1))) ?_
                refine dt (hv := by exact (by first | exact sdLG | exact sdW)) ?_
                refine dt (hv := by exact sdS) ?_
                refine dt (hv := by exact (sdX (z := 1))) ?_
                refine dso (hle := by show 0 + (j : Int).toNat * 1 + 1 ≤ E.length; omega) (hkp := by first | exact Kept.all | exact Kept.k0 | exact Kept.kY) ?_
                refine dn ?_
                refine bk ?_
                refine rg ?_
                refine st (h := O) ?_
                refine st (h := sdA) ?_
                refine st (h := O) ?_
                refine nl ?_
                refine bk2 (j + 1) (_) (by exact ⟨rfl, trivial⟩) (by exact ⟨rfl, rfl, rfl, rfl, rfl, trivial⟩) (by exact (by repeat' first | exact trivial | refine And.intro rfl ?_)) ?_ ?_
                · omega
                · have e := addTo_put (glW l a1 b) (shares (-(width - mW l a1 b)) (glZ l a1 b) (glZ l a1 b).length) (-1) hjw
                  refine ⟨by omega, ?_⟩
                  show putL E (0 + (j : Int).toNat * 1) [.int .i64 _] = _
                  rw [Nat.zero_add, Nat.mul_one, Int.toNat_natCast, ← e, hE, Int.neg_one_mul, ← Int.sub_eq_add_neg]
               ·obtain rfl : j = m := by omega
                refine ex ?_
                iterate 2 (refine sq ?_)
                refine rg ?_
                iterate 3 (refine st (h := O) ?_)
                refine gD (fun g142 => ?_) (fun g142 => ?_)
                ·try (exfalso; omega)
                 all_goals
                   refine sg (h := O) ?_
                   refine sg (h := sdN) ?_
                   iterate 2 (refine sg (h := O) ?_)
                   refine st (h := O) ?_
                   refine nl ?_
                   refine cD (fun c6 => ?_) (fun c6 => ?_)
                   ·try (exfalso; omega)
                    all_goals
                      refine sq ?_
                      refine rg ?_
                      refine st (h := O) ?_
                      refine nl ?_
                      refine bl ?_
                      first | refine J.loop2 (α := Nat) (β := List Value) (fun j E => j ≤ m ∧ E = ivs (addTo (glW l a1 b) (glZ l a1 b) (-1) j)) (fun j E => [(26, .int .i64 j)]) [(14, _), (15, _), (16, _), (18, _)] (fun j E => apR 500002 3 1 true (ocap.map Prod.fst) E ++ apR 500004 3 1 true (ocap.map sn3) S.2.2 ++ []) [(500003, _)] (fun j E => m - j) (0) (S.1) (by exact ⟨rfl, trivial⟩) (by exact ⟨rfl, rfl, rfl, rfl, trivial⟩) (by exact (by repeat' first | exact trivial | refine And.intro rfl ?_)) ?_ ?_ | refine J.loop2 (α := Nat) (β := List Value) (fun j E => j ≤ m ∧ E = ivs (addTo (glW l a1 b) (glZ l a1 b) (-1) j)) (fun j E => [(26, .int .i64 j)]) [(14, _), (15, _), (16, _), (18, _)] (fun j E => apR 500002 3 1 true (ocap.map Prod.fst) E ++ apR 500004 3 1 true (ocap.map sn3) S.2.2 ++ []) [] (fun j E => m - j) (0) (S.1) (by exact ⟨rfl, trivial⟩) (by exact ⟨rfl, rfl, rfl, rfl, trivial⟩) (by exact (by repeat' first | exact trivial | refine And.intro rfl ?_)) ?_ ?_
                      · exact ⟨Nat.zero_le _, by rw [addTo_0]; exact hS1⟩
                      ·intro j E L1 K1 e1 e2 hI
                       dsimp only [apV, apR, List.cons_append, List.nil_append] at e1 e2
                       subst e1 e2
                       obtain ⟨hj, hE⟩ := hI
                       have hEl : E.length = m := by rw [hE, ivs_length, addTo_len, l1]
                       iterate 2 (refine sq ?_)
                       refine rg ?_
                       iterate 4 (refine st (h := O) ?_)
                       refine nl ?_
                       refine cD (fun c7 => ?_) (fun c7 => ?_)
                       ·try (exfalso; omega)
                        all_goals
                          have hjm : j < m := by omega
                          have hjw : j < (glW l a1 b).length := by omega
                          have hd1 : E[0 + (j : Int).toNat * 1]? = some (.int .i64 (ints (glW l a1 b) j)) := by
                            rw [Nat.zero_add, Nat.mul_one, Int.toNat_natCast, hE]
                            exact addTo_get _ _ _ hjw
                          have hd2 : S.2.2[0 + (j : Int).toNat * 1]? = some (.int .i64 (ints (glZ l a1 b) j)) := by
                            rw [Nat.zero_add, Nat.mul_one, Int.toNat_natCast, hS3]
                            exact ivs_get (ints_get (by omega))
                          have b1 := oW _ (List.mem_of_getElem? (ints_get (xs := glW l a1 b) hjw))
                          have b2 := oZ _ (List.mem_of_getElem? (ints_get (xs := glZ l a1 b) (i := j) (by omega)))
                          refine sk ?_
                          refine sq ?_
                          refine bl ?_
                          refine dr 10 [500003, 500002, 500004] [0, 1, 2, 3, 4, 5, 6, 7, 8, 9, 1010] ?_
                          iterate 2 (refine dt (hv := by exact O) ?_)
                          refine dt (hv := by exact (sdX (z := 1))) ?_
                          refine dt (hv := by exact sdL (v := .int .i64 (ints (glW l a1 b) j)) (hv := by exact hd1)) ?_
                          iterate 2 (refine dt (hv := by exact O) ?_)
                          refine dt (hv := by exact (sdX (z := 1))) ?_
                          refine dt (hv := by exact sdL (v := .int .i64 (ints (glZ l a1 b) j)) (hv := by exact hd2)) ?_
                          refine dt (hv := by exact sdS) ?_
                          refine dt (hv := by exact (sdX (z := 1))) ?_
                          refine dso (hle := by show 0 + (j : Int).toNat * 1 + 1 ≤ E.length; omega) (hkp := by first | exact Kept.all | exact Kept.k0 | exact Kept.kY) ?_
                          refine dn ?_
                          refine bk ?_
                          refine rg ?_
                          refine st (h := O) ?_
                          refine st (h := sdA) ?_
                          refine st (h := O) ?_
                          refine nl ?_
                          refine bk2 (j + 1) (_) (by exact ⟨rfl, trivial⟩) (by exact ⟨rfl, rfl, rfl, rfl, trivial⟩) (by exact (by repeat' first | exact trivial | refine And.intro rfl ?_)) ?_ ?_
                          · omega
                          · have e := addTo_put (glW l a1 b) (glZ l a1 b) (-1) hjw
                            refine ⟨by omega, ?_⟩
                            show putL E (0 + (j : Int).toNat * 1) [.int .i64 _] = _
                            rw [Nat.zero_add, Nat.mul_one, Int.toNat_natCast, ← e, hE, Int.neg_one_mul, ← Int.sub_eq_add_neg]
                       ·obtain rfl : j = m := by omega
                        refine ex ?_
                        refine sq ?_
                        refine rg ?_
                        iterate 4 (refine st (h := O) ?_)
                        refine gD (fun g167 => ?_) (fun g167 => ?_)
                        ·try (exfalso; omega)
                         all_goals
                           refine sg (h := O) ?_
                           refine sg (h := sdN) ?_
                           iterate 2 (refine sg (h := O) ?_)
                           iterate 3 (refine st (h := O) ?_)
                           refine nl ?_
                           repeat refine J.dropF ?_
                           refine rtX fun ι hV => ?_
                           exact gluRet
                        ·try (exfalso; omega)
                         all_goals
                           iterate 4 (refine sp ?_)
                           iterate 3 (refine st (h := O) ?_)
                           refine nl ?_
                           repeat refine J.dropF ?_
                           refine rtX fun ι hV => ?_
                           exact gluRet
                   ·refine sk ?_
                    refine sq ?_
                    refine rg ?_
                    iterate 4 (refine st (h := O) ?_)
                    refine gD (fun g167 => ?_) (fun g167 => ?_)
                    ·try (exfalso; omega)
                     all_goals
                       refine sg (h := O) ?_
                       refine sg (h := sdN) ?_
                       iterate 2 (refine sg (h := O) ?_)
                       iterate 3 (refine st (h := O) ?_)
                       refine nl ?_
                       repeat refine J.dropF ?_
                       refine rtX fun ι hV => ?_
                       exact gluRet
                    ·try (exfalso; omega)
                     all_goals
                       iterate 4 (refine sp ?_)
                       iterate 3 (refine st (h := O) ?_)
                       refine nl ?_
                       repeat refine J.dropF ?_
                       refine rtX fun ι hV => ?_
                       exact gluRet
                ·try (exfalso; omega)
                 all_goals
                   iterate 4 (refine sp ?_)
                   refine st (h := O) ?_
                   refine nl ?_
                   refine cF ?_
                   refine sk ?_
                   refine sq ?_
                   refine rg ?_
                   iterate 4 (refine st (h := O) ?_)
                   refine gD (fun g167 => ?_) (fun g167 => ?_)
                   ·try (exfalso; omega)
                    all_goals
                      refine sg (h := O) ?_
                      refine sg (h := sdN) ?_
                      iterate 2 (refine sg (h := O) ?_)
                      iterate 3 (refine st (h := O) ?_)
                      refine nl ?_
                      repeat refine J.dropF ?_
                      refine rtX fun ι hV => ?_
                      exact gluRet
                   ·try (exfalso; omega)
                    all_goals
                      iterate 4 (refine sp ?_)
                      iterate 3 (refine st (h := O) ?_)
                      refine nl ?_
                      repeat refine J.dropF ?_
                      refine rtX fun ι hV => ?_
                      exact gluRet
           ·refine sk ?_
            iterate 2 (refine sq ?_)
            refine rg ?_
            iterate 3 (refine st (h := O) ?_)
            refine gD (fun g142 => ?_) (fun g142 => ?_)
            ·try (exfalso; omega)
             all_goals
               refine sg (h := O) ?_
               refine sg (h := sdN) ?_
               iterate 2 (refine sg (h := O) ?_)
               refine st (h := O) ?_
               refine nl ?_
               refine cD (fun c6 => ?_) (fun c6 => ?_)
               ·try (exfalso; omega)
                all_goals
                  refine sq ?_
                  refine rg ?_
                  refine st (h := O) ?_
                  refine nl ?_
                  refine bl ?_
                  first | refine J.loop2 (α := Nat) (β := List Value) (fun j E => j ≤ m ∧ E = ivs (addTo (glW l a1 b) (glZ l a1 b) (-1) j)) (fun j E => [(26, .int .i64 j)]) [(14, _), (15, _), (16, _), (18, _)] (fun j E => apR 500002 3 1 true (ocap.map Prod.fst) E ++ apR 500004 3 1 true (ocap.map sn3) S.2.2 ++ []) [(500003, _)] (fun j E => m - j) (0) (S.1) (by exact ⟨rfl, trivial⟩) (by exact ⟨rfl, rfl, rfl, rfl, trivial⟩) (by exact (by repeat' first | exact trivial | refine And.intro rfl ?_)) ?_ ?_ | refine J.loop2 (α := Nat) (β := List Value) (fun j E => j ≤ m ∧ E = ivs (addTo (glW l a1 b) (glZ l a1 b) (-1) j)) (fun j E => [(26, .int .i64 j)]) [(14, _), (15, _), (16, _), (18, _)] (fun j E => apR 500002 3 1 true (ocap.map Prod.fst) E ++ apR 500004 3 1 true (ocap.map sn3) S.2.2 ++ []) [] (fun j E => m - j) (0) (S.1) (by exact ⟨rfl, trivial⟩) (by exact ⟨rfl, rfl, rfl, rfl, trivial⟩) (by exact (by repeat' first | exact trivial | refine And.intro rfl ?_)) ?_ ?_
                  · exact ⟨Nat.zero_le _, by rw [addTo_0]; exact hS1⟩
                  ·intro j E L1 K1 e1 e2 hI
                   dsimp only [apV, apR, List.cons_append, List.nil_append] at e1 e2
                   subst e1 e2
                   obtain ⟨hj, hE⟩ := hI
                   have hEl : E.length = m := by rw [hE, ivs_length, addTo_len, l1]
                   iterate 2 (refine sq ?_)
                   refine rg ?_
                   iterate 4 (refine st (h := O) ?_)
                   refine nl ?_
                   refine cD (fun c7 => ?_) (fun c7 => ?_)
                   ·try (exfalso; omega)
                    all_goals
                      have hjm : j < m := by omega
                      have hjw : j < (glW l a1 b).length := by omega
                      have hd1 : E[0 + (j : Int).toNat * 1]? = some (.int .i64 (ints (glW l a1 b) j)) := by
                        rw [Nat.zero_add, Nat.mul_one, Int.toNat_natCast, hE]
                        exact addTo_get _ _ _ hjw
                      have hd2 : S.2.2[0 + (j : Int).toNat * 1]? = some (.int .i64 (ints (glZ l a1 b) j)) := by
                        rw [Nat.zero_add, Nat.mul_one, Int.toNat_natCast, hS3]
                        exact ivs_get (ints_get (by omega))
                      have b1 := oW _ (List.mem_of_getElem? (ints_get (xs := glW l a1 b) hjw))
                      have b2 := oZ _ (List.mem_of_getElem? (ints_get (xs := glZ l a1 b) (i := j) (by omega)))
                      refine sk ?_
                      refine sq ?_
                      refine bl ?_
                      refine dr 10 [500003, 500002, 500004] [0, 1, 2, 3, 4, 5, 6, 7, 8, 9, 1010] ?_
                      iterate 2 (refine dt (hv := by exact O) ?_)
                      refine dt (hv := by exact (sdX (z := 1))) ?_
                      refine dt (hv := by exact sdL (v := .int .i64 (ints (glW l a1 b) j)) (hv := by exact hd1)) ?_
                      iterate 2 (refine dt (hv := by exact O) ?_)
                      refine dt (hv := by exact (sdX (z := 1))) ?_
                      refine dt (hv := by exact sdL (v := .int .i64 (ints (glZ l a1 b) j)) (hv := by exact hd2)) ?_
                      refine dt (hv := by exact sdS) ?_
                      refine dt (hv := by exact (sdX (z := 1))) ?_
                      refine dso (hle := by show 0 + (j : Int).toNat * 1 + 1 ≤ E.length; omega) (hkp := by first | exact Kept.all | exact Kept.k0 | exact Kept.kY) ?_
                      refine dn ?_
                      refine bk ?_
                      refine rg ?_
                      refine st (h := O) ?_
                      refine st (h := sdA) ?_
                      refine st (h := O) ?_
                      refine nl ?_
                      refine bk2 (j + 1) (_) (by exact ⟨rfl, trivial⟩) (by exact ⟨rfl, rfl, rfl, rfl, trivial⟩) (by exact (by repeat' first | exact trivial | refine And.intro rfl ?_)) ?_ ?_
                      · omega
                      · have e := addTo_put (glW l a1 b) (glZ l a1 b) (-1) hjw
                        refine ⟨by omega, ?_⟩
                        show putL E (0 + (j : Int).toNat * 1) [.int .i64 _] = _
                        rw [Nat.zero_add, Nat.mul_one, Int.toNat_natCast, ← e, hE, Int.neg_one_mul, ← Int.sub_eq_add_neg]
                   ·obtain rfl : j = m := by omega
                    refine ex ?_
                    refine sq ?_
                    refine rg ?_
                    iterate 4 (refine st (h := O) ?_)
                    refine gD (fun g167 => ?_) (fun g167 => ?_)
                    ·try (exfalso; omega)
                     all_goals
                       refine sg (h := O) ?_
                       refine sg (h := sdN) ?_
                       iterate 2 (refine sg (h := O) ?_)
                       iterate 3 (refine st (h := O) ?_)
                       refine nl ?_
                       repeat refine J.dropF ?_
                       refine rtX fun ι hV => ?_
                       exact gluRet
                    ·try (exfalso; omega)
                     all_goals
                       iterate 4 (refine sp ?_)
                       iterate 3 (refine st (h := O) ?_)
                       refine nl ?_
                       repeat refine J.dropF ?_
                       refine rtX fun ι hV => ?_
                       exact gluRet
               ·refine sk ?_
                refine sq ?_
                refine rg ?_
                iterate 4 (refine st (h := O) ?_)
                refine gD (fun g167 => ?_) (fun g167 => ?_)
                ·try (exfalso; omega)
                 all_goals
                   refine sg (h := O) ?_
                   refine sg (h := sdN) ?_
                   iterate 2 (refine sg (h := O) ?_)
                   iterate 3 (refine st (h := O) ?_)
                   refine nl ?_
                   repeat refine J.dropF ?_
                   refine rtX fun ι hV => ?_
                   exact gluRet
                ·try (exfalso; omega)
                 all_goals
                   iterate 4 (refine sp ?_)
                   iterate 3 (refine st (h := O) ?_)
                   refine nl ?_
                   repeat refine J.dropF ?_
                   refine rtX fun ι hV => ?_
                   exact gluRet
            ·try (exfalso; omega)
             all_goals
               iterate 4 (refine sp ?_)
               refine st (h := O) ?_
               refine nl ?_
               refine cF ?_
               refine sk ?_
               refine sq ?_
               refine rg ?_
               iterate 4 (refine st (h := O) ?_)
               refine gD (fun g167 => ?_) (fun g167 => ?_)
               ·try (exfalso; omega)
                all_goals
                  refine sg (h := O) ?_
                  refine sg (h := sdN) ?_
                  iterate 2 (refine sg (h := O) ?_)
                  iterate 3 (refine st (h := O) ?_)
                  refine nl ?_
                  repeat refine J.dropF ?_
                  refine rtX fun ι hV => ?_
                  exact gluRet
               ·try (exfalso; omega)
                all_goals
                  iterate 4 (refine sp ?_)
                  iterate 3 (refine st (h := O) ?_)
                  refine nl ?_
                  repeat refine J.dropF ?_
                  refine rtX fun ι hV => ?_
                  exact gluRet
        ·try (exfalso; omega)
         all_goals
           iterate 4 (refine sp ?_)
           refine st (h := O) ?_
           refine nl ?_
           refine cF ?_
           refine sk ?_
           iterate 2 (refine sq ?_)
           refine rg ?_
           iterate 3 (refine st (h := O) ?_)
           refine gD (fun g142 => ?_) (fun g142 => ?_)
           ·try (exfalso; omega)
            all_goals
              refine sg (h := O) ?_
              refine sg (h := sdN) ?_
              iterate 2 (refine sg (h := O) ?_)
              refine st (h := O) ?_
              refine nl ?_
              refine cD (fun c6 => ?_) (fun c6 => ?_)
              ·try (exfalso; omega)
               all_goals
                 refine sq ?_
                 refine rg ?_
                 refine st (h := O) ?_
                 refine nl ?_
                 refine bl ?_
                 first | refine J.loop2 (α := Nat) (β := List Value) (fun j E => j ≤ m ∧ E = ivs (addTo (glW l a1 b) (glZ l a1 b) (-1) j)) (fun j E => [(26, .int .i64 j)]) [(14, _), (15, _), (16, _), (18, _)] (fun j E => apR 500002 3 1 true (ocap.map Prod.fst) E ++ apR 500004 3 1 true (ocap.map sn3) S.2.2 ++ []) [(500003, _)] (fun j E => m - j) (0) (S.1) (by exact ⟨rfl, trivial⟩) (by exact ⟨rfl, rfl, rfl, rfl, trivial⟩) (by exact (by repeat' first | exact trivial | refine And.intro rfl ?_)) ?_ ?_ | refine J.loop2 (α := Nat) (β := List Value) (fun j E => j ≤ m ∧ E = ivs (addTo (glW l a1 b) (glZ l a1 b) (-1) j)) (fun j E => [(26, .int .i64 j)]) [(14, _), (15, _), (16, _), (18, _)] (fun j E => apR 500002 3 1 true (ocap.map Prod.fst) E ++ apR 500004 3 1 true (ocap.map sn3) S.2.2 ++ []) [] (fun j E => m - j) (0) (S.1) (by exact ⟨rfl, trivial⟩) (by exact ⟨rfl, rfl, rfl, rfl, trivial⟩) (by exact (by repeat' first | exact trivial | refine And.intro rfl ?_)) ?_ ?_
                 · exact ⟨Nat.zero_le _, by rw [addTo_0]; exact hS1⟩
                 ·intro j E L1 K1 e1 e2 hI
                  dsimp only [apV, apR, List.cons_append, List.nil_append] at e1 e2
                  subst e1 e2
                  obtain ⟨hj, hE⟩ := hI
                  have hEl : E.length = m := by rw [hE, ivs_length, addTo_len, l1]
                  iterate 2 (refine sq ?_)
                  refine rg ?_
                  iterate 4 (refine st (h := O) ?_)
                  refine nl ?_
                  refine cD (fun c7 => ?_) (fun c7 => ?_)
                  ·try (exfalso; omega)
                   all_goals
                     have hjm : j < m := by omega
                     have hjw : j < (glW l a1 b).length := by omega
                     have hd1 : E[0 + (j : Int).toNat * 1]? = some (.int .i64 (ints (glW l a1 b) j)) := by
                       rw [Nat.zero_add, Nat.mul_one, Int.toNat_natCast, hE]
                       exact addTo_get _ _ _ hjw
                     have hd2 : S.2.2[0 + (j : Int).toNat * 1]? = some (.int .i64 (ints (glZ l a1 b) j)) := by
                       rw [Nat.zero_add, Nat.mul_one, Int.toNat_natCast, hS3]
                       exact ivs_get (ints_get (by omega))
                     have b1 := oW _ (List.mem_of_getElem? (ints_get (xs := glW l a1 b) hjw))
                     have b2 := oZ _ (List.mem_of_getElem? (ints_get (xs := glZ l a1 b) (i := j) (by omega)))
                     refine sk ?_
                     refine sq ?_
                     refine bl ?_
                     refine dr 10 [500003, 500002, 500004] [0, 1, 2, 3, 4, 5, 6, 7, 8, 9, 1010] ?_
                     iterate 2 (refine dt (hv := by exact O) ?_)
                     refine dt (hv := by exact (sdX (z := 1))) ?_
                     refine dt (hv := by exact sdL (v := .int .i64 (ints (glW l a1 b) j)) (hv := by exact hd1)) ?_
                     iterate 2 (refine dt (hv := by exact O) ?_)
                     refine dt (hv := by exact (sdX (z := 1))) ?_
                     refine dt (hv := by exact sdL (v := .int .i64 (ints (glZ l a1 b) j)) (hv := by exact hd2)) ?_
                     refine dt (hv := by exact sdS) ?_
                     refine dt (hv := by exact (sdX (z := 1))) ?_
                     refine dso (hle := by show 0 + (j : Int).toNat * 1 + 1 ≤ E.length; omega) (hkp := by first | exact Kept.all | exact Kept.k0 | exact Kept.kY) ?_
                     refine dn ?_
                     refine bk ?_
                     refine rg ?_
                     refine st (h := O) ?_
                     refine st (h := sdA) ?_
                     refine st (h := O) ?_
                     refine nl ?_
                     refine bk2 (j + 1) (_) (by exact ⟨rfl, trivial⟩) (by exact ⟨rfl, rfl, rfl, rfl, trivial⟩) (by exact (by repeat' first | exact trivial | refine And.intro rfl ?_)) ?_ ?_
                     · omega
                     · have e := addTo_put (glW l a1 b) (glZ l a1 b) (-1) hjw
                       refine ⟨by omega, ?_⟩
                       show putL E (0 + (j : Int).toNat * 1) [.int .i64 _] = _
                       rw [Nat.zero_add, Nat.mul_one, Int.toNat_natCast, ← e, hE, Int.neg_one_mul, ← Int.sub_eq_add_neg]
                  ·obtain rfl : j = m := by omega
                   refine ex ?_
                   refine sq ?_
                   refine rg ?_
                   iterate 4 (refine st (h := O) ?_)
                   refine gD (fun g167 => ?_) (fun g167 => ?_)
                   ·try (exfalso; omega)
                    all_goals
                      refine sg (h := O) ?_
                      refine sg (h := sdN) ?_
                      iterate 2 (refine sg (h := O) ?_)
                      iterate 3 (refine st (h := O) ?_)
                      refine nl ?_
                      repeat refine J.dropF ?_
                      refine rtX fun ι hV => ?_
                      exact gluRet
                   ·try (exfalso; omega)
                    all_goals
                      iterate 4 (refine sp ?_)
                      iterate 3 (refine st (h := O) ?_)
                      refine nl ?_
                      repeat refine J.dropF ?_
                      refine rtX fun ι hV => ?_
                      exact gluRet
              ·refine sk ?_
               refine sq ?_
               refine rg ?_
               iterate 4 (refine st (h := O) ?_)
               refine gD (fun g167 => ?_) (fun g167 => ?_)
               ·try (exfalso; omega)
                all_goals
                  refine sg (h := O) ?_
                  refine sg (h := sdN) ?_
                  iterate 2 (refine sg (h := O) ?_)
                  iterate 3 (refine st (h := O) ?_)
                  refine nl ?_
                  repeat refine J.dropF ?_
                  refine rtX fun ι hV => ?_
                  exact gluRet
               ·try (exfalso; omega)
                all_goals
                  iterate 4 (refine sp ?_)
                  iterate 3 (refine st (h := O) ?_)
                  refine nl ?_
                  repeat refine J.dropF ?_
                  refine rtX fun ι hV => ?_
                  exact gluRet
           ·try (exfalso; omega)
            all_goals
              iterate 4 (refine sp ?_)
              refine st (h := O) ?_
              refine nl ?_
              refine cF ?_
              refine sk ?_
              refine sq ?_
              refine rg ?_
              iterate 4 (refine st (h := O) ?_)
              refine gD (fun g167 => ?_) (fun g167 => ?_)
              ·try (exfalso; omega)
               all_goals
                 refine sg (h := O) ?_
                 refine sg (h := sdN) ?_
                 iterate 2 (refine sg (h := O) ?_)
                 iterate 3 (refine st (h := O) ?_)
                 refine nl ?_
                 repeat refine J.dropF ?_
                 refine rtX fun ι hV => ?_
                 exact gluRet
              ·try (exfalso; omega)
               all_goals
                 iterate 4 (refine sp ?_)
                 iterate 3 (refine st (h := O) ?_)
                 refine nl ?_
                 repeat refine J.dropF ?_
                 refine rtX fun ι hV => ?_
                 exact gluRet
  · exact absurd hg (by decide)
end Go.Proofs.Ytnkddjdmpnghmaa.Am
namespace Go.Proofs.Ytnkddjdmpnghmaa.Am
set_option linter.unusedSimpArgs false
set_option linter.unusedVariables false
set_option maxRecDepth 100000
set_option maxHeartbeats 4000000
open Go Go.RowKit
/-- how wide a line's glue is, if there is such a line -/
def gluT (l : List Item) (a b width al : Int) : List Int × Bool := if lineB l a b = true ∧ mayB width al = true then glueD l (a + 1).toNat b.toNat width al else ([], false)
theorem RedGl.no {u : Value} {Y : List (Nat × Row)} {g : List Int × Bool} (h : g = ([], false)) (hu : u = .tuple #[.slice none 0 0, .bool false]) : RedGl g u Y := by
  subst h hu
  exact ⟨none, 0, rfl, fun G _ => RIx.none G⟩
theorem lineB_lt {l : List Item} {a b : Int} (h : lineB l a b = true) : -1 ≤ a ∧ a < b ∧ b < l.length := by
  simp only [lineB, legalB, Bool.and_eq_true, Bool.or_eq_true, decide_eq_true_eq] at h
  omega
theorem SlV.opq {g : Value} (h : SlV g) : ∃ a n c, PlA a ∧ g = .slice a n c := by
  rcases h with ⟨b, o, n, c, rfl⟩ | ⟨n, c, rfl⟩
  · exact ⟨_, n, c, .inr (.inl ⟨b, o, rfl⟩), rfl⟩
  · exact ⟨none, n, c, .inl rfl, rfl⟩
theorem RItems.slq {F : Mem} {v : Value} {l : List Item} (h : RItems F v l) : SlV v := by
  rcases h.cases with ⟨vb, vo, vc, rfl, _⟩ | ⟨rfl, _⟩
  · exact .inl ⟨_, _, _, _, rfl⟩
  · exact .inr ⟨_, _, rfl⟩
theorem rline_C (F : Mem) (v : Value) (l : List Item) (a b : Int) (hv : RItems F v l) : C0 Try.prog 32 [v, .int .i64 a, .int .i64 b] F (.bool (lineB l a b)) := by
  rcases hv.cases with ⟨vb, vo, vc, rfl, h63, hr⟩ | ⟨rfl, rfl⟩
  all_goals
    refine C.go hT Try.func32 Try.ntmps32 ?_
    refine sq ?_
    refine rg ?_
    refine st (h := O) ?_
    refine nl ?_
    refine sq ?_
    refine rg ?_
    iterate 3 (refine st (h := O) ?_)
    refine gD (fun g9 => ?_) (fun g9 => ?_)
    ·refine sp ?_
     iterate 2 (refine sp ?_)
     iterate 2 (refine st (h := O) ?_)
     iterate 2 (refine sg (h := O) ?_)
     refine clg (h := by exact fun ι hV hl => R24Legal_C _ _ _ b (hv.le hl)) ?_
     iterate 2 (refine st (h := O) ?_)
     refine gB (fun g19 => ?_) (fun g19 => ?_)
     ·refine sg (h := O) ?_
      iterate 2 (refine sg (h := O) ?_)
      iterate 2 (refine st (h := O) ?_)
      refine nl ?_
      refine rt ⟨congrArg Value.bool ?_, rfl⟩
      simp only [lineB]
      try clear hr
      clear hv
      generalize goodL _ = x at *
      generalize legalB _ a = y at *
      generalize legalB _ b = z at *
      cases x <;> cases y <;> cases z <;> simp_all
     ·refine sp ?_
      iterate 2 (refine sp ?_)
      iterate 2 (refine st (h := O) ?_)
      refine nl ?_
      refine rt ⟨congrArg Value.bool ?_, rfl⟩
      simp only [lineB]
      try clear hr
      clear hv
      generalize goodL _ = x at *
      generalize legalB _ a = y at *
      generalize legalB _ b = z at *
      cases x <;> cases y <;> cases z <;> simp_all
    ·refine sg (h := O) ?_
     refine sg (h := O) ?_
     refine clg (h := by exact fun ι hV hl => R24Legal_C _ _ _ a (hv.le hl)) ?_
     iterate 2 (refine st (h := O) ?_)
     refine gB (fun g14 => ?_) (fun g14 => ?_)
     ·refine sg (h := O) ?_
      refine sg (h := O) ?_
      refine clg (h := by exact fun ι hV hl => R24Legal_C _ _ _ b (hv.le hl)) ?_
      iterate 2 (refine st (h := O) ?_)
      refine gB (fun g19 => ?_) (fun g19 => ?_)
      ·refine sg (h := O) ?_
       iterate 2 (refine sg (h := O) ?_)
       iterate 2 (refine st (h := O) ?_)
       refine nl ?_
       refine rt ⟨congrArg Value.bool ?_, rfl⟩
       simp only [lineB]
       try clear hr
       clear hv
       generalize goodL _ = x at *
       generalize legalB _ a = y at *
       generalize legalB _ b = z at *
       cases x <;> cases y <;> cases z <;> simp_all
      ·refine sp ?_
       iterate 2 (refine sp ?_)
       iterate 2 (refine st (h := O) ?_)
       refine nl ?_
       refine rt ⟨congrArg Value.bool ?_, rfl⟩
       simp only [lineB]
       try clear hr
       clear hv
       generalize goodL _ = x at *
       generalize legalB _ a = y at *
       generalize legalB _ b = z at *
       cases x <;> cases y <;> cases z <;> simp_all
     ·refine sp ?_
      iterate 2 (refine sp ?_)
      iterate 2 (refine st (h := O) ?_)
      iterate 3 (refine sp ?_)
      iterate 2 (refine st (h := O) ?_)
      refine nl ?_
      refine rt ⟨congrArg Value.bool ?_, rfl⟩
      simp only [lineB]
      try clear hr
      clear hv
      generalize goodL _ = x at *
      generalize legalB _ a = y at *
      generalize legalB _ b = z at *
      cases x <;> cases y <;> cases z <;> simp_all
theorem rGlue_C (F : Mem) (v : Value) (l : List Item) (a b width al : Int) (hv : RItems F v l) : C Try.prog 18 [v, .int .i64 a, .int .i64 b, .int .i64 width, .int .i64 al] F (RedGl (gluT l a b width al)) := by
  obtain ⟨va, vn, vc, hva, rfl⟩ := hv.slq.opq
  refine C.go hT Try.func18 Try.ntmps18 ?_
  refine sq ?_
  refine rg ?_
  iterate 2 (refine st (h := O) ?_)
  refine nl ?_
  iterate 2 (refine sq ?_)
  refine rg ?_
  refine st (h := O) ?_
  refine cl (h := by exact fun ι hV hl => (RGood_C _ _ _ (hv.le hl)).ofR (arg1 (hva.rV ι _ _))) ?_
  iterate 2 (refine st (h := O) ?_)
  refine gB (fun g15 => ?_) (fun g15 => ?_)
  ·refine sp ?_
   iterate 3 (refine sp ?_)
   iterate 2 (refine st (h := O) ?_)
   iterate 5 (refine sp ?_)
   refine st (h := O) ?_
   refine nl ?_
   refine cT ?_
   refine sq ?_
   refine rg ?_
   iterate 2 (refine st (h := O) ?_)
   refine nl ?_
   exact rt (RedGl.no (if_neg fun h => by
     have := h.1
     simp only [lineB, Bool.and_eq_true] at this
     rw [this.1.1.1] at g15; cases g15) rfl)
  ·refine sg (h := O) ?_
   refine sg (h := O) ?_
   refine clg (h := by exact fun ι hV hl => rmay_C _ _ _) ?_
   refine sg (h := O) ?_
   iterate 2 (refine st (h := O) ?_)
   refine gB (fun g21 => ?_) (fun g21 => ?_)
   ·refine sp ?_
    iterate 4 (refine sp ?_)
    refine st (h := O) ?_
    refine nl ?_
    refine cT ?_
    refine sq ?_
    refine rg ?_
    iterate 2 (refine st (h := O) ?_)
    refine nl ?_
    exact rt (RedGl.no (if_neg fun h => by rw [h.2] at g21; cases g21) rfl)
   ·refine sg (h := O) ?_
    iterate 2 (refine sg (h := O) ?_)
    refine clg (h := by exact fun ι hV hl => (rline_C _ _ _ _ _ (hv.le hl)).ofR (arg3 (hva.rV ι _ _) rfl rfl)) ?_
    refine sg (h := O) ?_
    refine st (h := O) ?_
    refine nl ?_
    refine cB (fun c0 => ?_) (fun c0 => ?_)
    ·refine sq ?_
     refine rg ?_
     iterate 2 (refine st (h := O) ?_)
     refine nl ?_
     exact rt (RedGl.no (if_neg fun h => by rw [h.1] at c0; cases c0) rfl)
    ·have hg : goodL l = true := by simpa using g15
     have hm : mayB width al = true := by simpa using g21
     have hln : lineB l a b = true := by simpa using c0
     have hok : gluT l a b width al = glueD l (a + 1).toNat b.toNat width al := if_pos ⟨hln, hm⟩
     have hlt := lineB_lt hln
     simp only [mayB, decide_eq_true_eq] at hm
     refine sk ?_
     refine sq ?_
     refine rg ?_
     iterate 5 (refine st (h := O) ?_)
     refine clC (h := by exact fun ι hV hl => (rglue_C _ _ _ a (a + 1).toNat b.toNat width al (hv.le hl) hg (by omega) (by omega) (by rw [show ((b.toNat : Nat) : Int) = b from by omega]; exact hln) ⟨hm.1, hm.2.1⟩).ofR (by rw [show ((b.toNat : Nat) : Int) = b from by omega, List.map_cons, hva.rV]; rfl)) ?_
     intro u1 Y1 hQ1 hv1 hp1 hN1
     obtain ⟨ga, gc, rfl, hR1⟩ := hQ1
     iterate 4 (refine st (h := O) ?_)
     refine nl ?_
     rw [hok]
     exact rtY hp1 fun ι hV => ⟨ga, gc, hv1 ι, fun G hG => hR1 G hG⟩
end Go.Proofs.Ytnkddjdmpnghmaa.Am
