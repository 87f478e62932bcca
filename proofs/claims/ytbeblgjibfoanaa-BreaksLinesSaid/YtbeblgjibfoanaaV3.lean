/- Contracts: the reference's lines -/
import Derived.Test.YtbeblgjibfoanaaV2
import Derived.Test.YtbeblgjibfoanaaU9
import Derived.Test.YtbeblgjibfoanaaU10
namespace Go.Proofs.Ytbeblgjibfoanaa.Am
set_option linter.unusedSimpArgs false
set_option linter.unusedVariables false
set_option maxRecDepth 100000
set_option maxHeartbeats 4000000
open Go Go.RowKit
theorem ends_C (F : Mem) (v : Value) (l : List Item) (a b : Int) (hv : RItems F v l) : C0 Try.prog 48 [v, .int .i64 a, .int .i64 b] F (.bool ((decide (a = -1) || legalB l a) && (legalB l b && decide (a < b)))) := by
  rcases hv.forms with ⟨vb, vo, vc, rfl⟩ | ⟨rfl, rfl⟩
  all_goals
    refine C.go hT Try.func48 Try.ntmps48 ?_
    refine sq ?_
    refine rg ?_
    refine st (h := O) ?_
    refine nl ?_
    refine sq ?_
    refine rg ?_
    iterate 3 (refine st (h := O) ?_)
    refine gD (fun g9 => ?_) (fun g9 => ?_)
    · refine sp ?_
      iterate 2 (refine sp ?_)
      iterate 2 (refine st (h := O) ?_)
      iterate 2 (refine sg (h := O) ?_)
      refine clg (h := by exact fun ι hV hl => RLegal_C _ _ _ _ (hv.le hl)) ?_
      iterate 2 (refine st (h := O) ?_)
      refine gB (fun g19 => ?_) (fun g19 => ?_)
      · refine sg (h := O) ?_
        iterate 2 (refine sg (h := O) ?_)
        iterate 2 (refine st (h := O) ?_)
        refine nl ?_
        refine rt ⟨?_, rfl⟩
        simp_all
      · refine sp ?_
        iterate 2 (refine sp ?_)
        iterate 2 (refine st (h := O) ?_)
        refine nl ?_
        refine rt ⟨?_, rfl⟩
        simp_all
    · refine sg (h := O) ?_
      refine sg (h := O) ?_
      refine clg (h := by exact fun ι hV hl => RLegal_C _ _ _ _ (hv.le hl)) ?_
      iterate 2 (refine st (h := O) ?_)
      refine gB (fun g14 => ?_) (fun g14 => ?_)
      · refine sg (h := O) ?_
        refine sg (h := O) ?_
        refine clg (h := by exact fun ι hV hl => RLegal_C _ _ _ _ (hv.le hl)) ?_
        iterate 2 (refine st (h := O) ?_)
        refine gB (fun g19 => ?_) (fun g19 => ?_)
        · refine sg (h := O) ?_
          iterate 2 (refine sg (h := O) ?_)
          iterate 2 (refine st (h := O) ?_)
          refine nl ?_
          refine rt ⟨?_, rfl⟩
          simp_all
        · refine sp ?_
          iterate 2 (refine sp ?_)
          iterate 2 (refine st (h := O) ?_)
          refine nl ?_
          refine rt ⟨?_, rfl⟩
          simp_all
      · refine sp ?_
        iterate 2 (refine sp ?_)
        iterate 2 (refine st (h := O) ?_)
        iterate 3 (refine sp ?_)
        iterate 2 (refine st (h := O) ?_)
        refine nl ?_
        refine rt ⟨?_, rfl⟩
        simp_all
/-- the reference's first item of a line -/
theorem begin_eq {l : List Item} (hg : goodL l = true) : ∀ d i b, i + d = b → b ≤ l.length → beginAt l b d i = min (bgD l (l.length - i) i) b
  | 0, i, b, h, hb => by
    have := (bgD_bd l (l.length - i) i).1
    simp [beginAt]; omega
  | d + 1, i, b, h, hb => by
    have hi : i < l.length := by omega
    have hk := good_ok hg hi
    simp only [Item.ok, decide_eq_true_eq] at hk
    rw [show l.length - i = (l.length - (i + 1)) + 1 from by omega]
    simp only [beginAt, bgD]
    rw [if_pos (by omega)]
    by_cases hs : skipB (at_ l i) = true
    · rw [if_pos hs, begin_eq hg d (i + 1) b (by omega) hb]
      have h1 : ¬ forceB (at_ l i) = true := by
        simp only [skipB, forceB, Bool.or_eq_true, Bool.and_eq_true, decide_eq_true_eq] at hs ⊢
        omega
      have h2 : ¬ (at_ l i).kind = 1 := by
        simp only [skipB, Bool.or_eq_true, Bool.and_eq_true, decide_eq_true_eq] at hs
        omega
      rw [if_neg h1, if_neg h2]
    · rw [if_neg hs]
      have h1 : forceB (at_ l i) = true ∨ (at_ l i).kind = 1 := by
        simp only [skipB, forceB, Bool.or_eq_true, Bool.and_eq_true, decide_eq_true_eq] at hs ⊢
        omega
      rcases h1 with h1 | h1
      · rw [if_pos h1]; omega
      · split <;> omega
theorem rmeasure_C (F : Mem) (v : Value) (l : List Item) (a : Int) (a1 b : Nat) (hv : RItems F v l) (hg : goodL l = true) (ha : a + 1 = a1) (hab : a1 ≤ b) (hb : b < l.length) : C0 Try.prog 45 [v, .int .i64 a, .int .i64 b] F (.tuple #[.int .i64 (mW l a1 b), .int .i64 (mY l a1 b), .int .i64 (mZ l a1 b)]) := by
  have hlen := good_len hg
  rcases hv.cases with ⟨vb, vo, vc, rfl, _, hr⟩ | ⟨rfl, rfl⟩
  · have hbe : beginAt l (b : Int).toNat ((b : Int).toNat - (a + 1).toNat) (a + 1).toNat = fromA l a1 b := by
      rw [ha, Int.toNat_natCast, Int.toNat_natCast]
      exact begin_eq hg (b - a1) a1 b (by omega) (by omega)
    have hfr : a1 ≤ fromA l a1 b ∧ fromA l a1 b ≤ b := ⟨by unfold fromA; have := (bgD_bd l (l.length - a1) a1).1; unfold bgA; omega, Nat.min_le_right _ _⟩
    unfold mW mY mZ
    generalize fromA l a1 b = f at *
    have hbd : ∀ n, n ≤ l.length → _ := fun n => sums_bd hg n
    have hb0 := hbd b (by omega)
    have hf0 := hbd f (by omega)
    obtain ⟨s0, s1, _⟩ := hr b hb
    refine C.go hT Try.func45 Try.ntmps45 ?_
    refine sq ?_
    refine rg ?_
    iterate 3 (refine st (h := O) ?_)
    refine nl ?_
    refine sq ?_
    refine rg ?_
    iterate 3 (refine st (h := O) ?_)
    refine nl ?_
    iterate 2 (refine sq ?_)
    refine rg ?_
    iterate 3 (refine st (h := O) ?_)
    refine cl (h := by exact fun ι hV hl => RBegin_C _ _ l a b (hv.le hl) (by omega) (by omega) (by omega)) ?_
    rw [hbe]
    refine st (h := O) ?_
    refine nl ?_
    refine bl ?_
    refine J.loop4 (α := Nat) (β := Int) (γ := Int) (δ := Int) (fun i w y z => f ≤ i ∧ i ≤ b ∧ w = wS l i - wS l f ∧ y = yS l i - yS l f ∧ z = zS l i - zS l f) (fun i w y z => [(9, .int .i64 w), (10, .int .i64 y), (11, .int .i64 z), (12, .int .i64 i)]) [(0, _), (2, _)] (fun i w y z => []) [] (fun i w y z => b - i) (f) (0) (0) (0) (by exact ⟨rfl, rfl, rfl, rfl, trivial⟩) (by exact ⟨rfl, rfl, trivial⟩) (by exact trivial) ?_ ?_
    · exact ⟨by omega, by omega, by omega, by omega, by omega⟩
    · intro i w y z L1 K1 e1 e2 hI
      dsimp only [apV, apR, List.cons_append, List.nil_append] at e1 e2
      subst e1 e2
      obtain ⟨hfi, hib, hw, hy, hz⟩ := hI
      iterate 2 (refine sq ?_)
      refine rg ?_
      iterate 3 (refine st (h := O) ?_)
      refine nl ?_
      refine cD (fun c0 => ?_) (fun c0 => ?_)
      · have hil : i < l.length := by omega
        obtain ⟨r0, r1, r2, r3, _⟩ := hr i hil
        have hok := good_ok hg hil
        simp only [Item.ok, decide_eq_true_eq] at hok
        have hi0 := hbd i (by omega)
        have ew : wS l (i + 1) = wS l i + (if (at_ l i).kind = 3 then 0 else (at_ l i).width) := rfl
        have ey : yS l (i + 1) = yS l i + (if (at_ l i).kind = 2 then (at_ l i).stretch else 0) := rfl
        have ez : zS l (i + 1) = zS l i + (if (at_ l i).kind = 2 then (at_ l i).shrink else 0) := rfl
        refine sk ?_
        refine sq ?_
        refine bl ?_
        iterate 2 (refine sq ?_)
        refine rg ?_
        iterate 2 (refine st (h := O) ?_)
        refine st (h := (sdX (z := 11))) ?_
        refine st (h := sdFA) ?_
        refine st (h := sdL) ?_
        refine st (h := O) ?_
        refine nl ?_
        refine cD (fun c1 => ?_) (fun c1 => ?_)
        · refine ex ?_
          refine rg ?_
          refine st (h := O) ?_
          refine st (h := sdA) ?_
          refine st (h := O) ?_
          refine nl ?_
          refine bk4 (i + 1) (_) (_) (_) (by exact ⟨rfl, rfl, rfl, rfl, trivial⟩) (by exact ⟨rfl, rfl, trivial⟩) (by exact trivial) ?_ ?_
          · omega
          · first
              | (rw [if_pos c1] at ew; rw [if_neg (by omega)] at ey ez; exact ⟨by omega, by omega, by omega, by omega, by omega⟩)
              | (rw [if_neg c1] at ew; rw [if_pos c2] at ey ez; exact ⟨by omega, by omega, by omega, by omega, by omega⟩)
              | (rw [if_neg c1] at ew; rw [if_neg c2] at ey ez; exact ⟨by omega, by omega, by omega, by omega, by omega⟩)
        · refine sk ?_
          refine sq ?_
          refine rg ?_
          iterate 3 (refine st (h := O) ?_)
          refine st (h := (sdX (z := 11))) ?_
          refine st (h := sdFA) ?_
          refine st (h := sdL) ?_
          refine st (h := sdA) ?_
          refine st (h := O) ?_
          refine nl ?_
          refine sq ?_
          refine rg ?_
          iterate 2 (refine st (h := O) ?_)
          refine st (h := (sdX (z := 11))) ?_
          refine st (h := sdFA) ?_
          refine st (h := sdL) ?_
          refine st (h := O) ?_
          refine nl ?_
          refine cD (fun c2 => ?_) (fun c2 => ?_)
          · refine sq ?_
            refine rg ?_
            iterate 3 (refine st (h := O) ?_)
            refine st (h := (sdX (z := 11))) ?_
            refine st (h := sdFA) ?_
            refine st (h := sdL) ?_
            refine st (h := sdA) ?_
            refine st (h := O) ?_
            refine nl ?_
            refine rg ?_
            iterate 3 (refine st (h := O) ?_)
            refine st (h := (sdX (z := 11))) ?_
            refine st (h := sdFA) ?_
            refine st (h := sdL) ?_
            refine st (h := sdA) ?_
            refine st (h := O) ?_
            refine nl ?_
            refine bk ?_
            refine rg ?_
            refine st (h := O) ?_
            refine st (h := sdA) ?_
            refine st (h := O) ?_
            refine nl ?_
            refine bk4 (i + 1) (_) (_) (_) (by exact ⟨rfl, rfl, rfl, rfl, trivial⟩) (by exact ⟨rfl, rfl, trivial⟩) (by exact trivial) ?_ ?_
            · omega
            · first
                | (rw [if_pos c1] at ew; rw [if_neg (by omega)] at ey ez; exact ⟨by omega, by omega, by omega, by omega, by omega⟩)
                | (rw [if_neg c1] at ew; rw [if_pos c2] at ey ez; exact ⟨by omega, by omega, by omega, by omega, by omega⟩)
                | (rw [if_neg c1] at ew; rw [if_neg c2] at ey ez; exact ⟨by omega, by omega, by omega, by omega, by omega⟩)
          · refine sk ?_
            refine bk ?_
            refine rg ?_
            refine st (h := O) ?_
            refine st (h := sdA) ?_
            refine st (h := O) ?_
            refine nl ?_
            refine bk4 (i + 1) (_) (_) (_) (by exact ⟨rfl, rfl, rfl, rfl, trivial⟩) (by exact ⟨rfl, rfl, trivial⟩) (by exact trivial) ?_ ?_
            · omega
            · first
                | (rw [if_pos c1] at ew; rw [if_neg (by omega)] at ey ez; exact ⟨by omega, by omega, by omega, by omega, by omega⟩)
                | (rw [if_neg c1] at ew; rw [if_pos c2] at ey ez; exact ⟨by omega, by omega, by omega, by omega, by omega⟩)
                | (rw [if_neg c1] at ew; rw [if_neg c2] at ey ez; exact ⟨by omega, by omega, by omega, by omega, by omega⟩)
      · obtain rfl : i = b := by omega
        have hok := good_ok hg hb
        simp only [Item.ok, decide_eq_true_eq] at hok
        refine ex ?_
        iterate 2 (refine sq ?_)
        refine rg ?_
        iterate 2 (refine st (h := O) ?_)
        refine st (h := (sdX (z := 11))) ?_
        refine st (h := sdFA) ?_
        refine st (h := sdL) ?_
        refine st (h := O) ?_
        refine nl ?_
        refine cD (fun c3 => ?_) (fun c3 => ?_)
        · refine rg ?_
          iterate 3 (refine st (h := O) ?_)
          refine st (h := (sdX (z := 11))) ?_
          refine st (h := sdFA) ?_
          refine st (h := sdL) ?_
          refine st (h := sdA) ?_
          refine st (h := O) ?_
          refine nl ?_
          refine sq ?_
          refine rg ?_
          iterate 6 (refine st (h := O) ?_)
          refine nl ?_
          refine rt ⟨?_, rfl⟩
          subst hw hy hz
          first
            | rw [if_pos c3]
            | rw [if_neg c3, Int.add_zero]
        · refine sk ?_
          refine sq ?_
          refine rg ?_
          iterate 6 (refine st (h := O) ?_)
          refine nl ?_
          refine rt ⟨?_, rfl⟩
          subst hw hy hz
          first
            | rw [if_pos c3]
            | rw [if_neg c3, Int.add_zero]
  · simp at hb
/-- the reference's judgement of a line: none, if a forced break is passed over -/
def toldD (l : List Item) (x : Par) (a1 b : Nat) : Jud := if b ≤ foA l a1 then judD l x a1 b else ⟨0, 0, false⟩
theorem foA_ge {l : List Item} {i b : Nat} (hb : b ≤ l.length) : ∀ k, i ≤ k → k ≤ b → (∀ j, i ≤ j → j < k → forceB (at_ l j) = false) → k ≤ foA l i := by
  have aux : ∀ d i k, i + d = k → k ≤ l.length → (∀ j, i ≤ j → j < k → forceB (at_ l j) = false) → k ≤ foA l i := by
    intro d
    induction d with
    | zero => intro i k h _ _; have := (foD_bd l (l.length - i) i).1; unfold foA; omega
    | succ d ih =>
      intro i k h hk hf
      rw [foA_step (by omega), if_neg (by rw [hf i (by omega) (by omega)]; decide)]
      exact ih (i + 1) k (by omega) hk (fun j h1 h2 => hf j (by omega) h2)
  exact fun k h1 h2 h3 => aux (k - i) i k (by omega) (by omega) h3
theorem foA_le {l : List Item} {i k : Nat} (hk : k < l.length) (hik : i ≤ k) (hf : forceB (at_ l k) = true) : foA l i ≤ k := by
  have aux : ∀ d i, i + d = k → foA l i ≤ k := by
    intro d
    induction d with
    | zero => intro i h; rw [foA_step (by omega)]; obtain rfl : i = k := by omega
              rw [if_pos hf]; exact Nat.le_refl _
    | succ d ih =>
      intro i h
      rw [foA_step (by omega)]
      split
      · omega
      · exact ih (i + 1) (by omega)
  exact aux (k - i) i (by omega)
def judgV (j : Jud) : Value := .agg #[.int .i64 j.bad, .int .i64 j.cls, .bool j.fits]
theorem told24_C (F : Mem) (v : Value) (l : List Item) (a : Int) (a1 b : Nat) (x : Par) (hv : RItems F v l) (hg : goodL l = true) (hx : x.good = true) (ha : a + 1 = a1) (hab : a1 ≤ b) (hb : b < l.length) : C0 Try.prog 43 [v, .int .i64 a, .int .i64 b, x.v] F (judgV (toldD l x a1 b)) := by
  have hlen := good_len hg
  have hM : ∀ G, RItems G v l → C0 Try.prog 45 [v, .int .i64 a, .int .i64 b] G (.tuple #[.int .i64 (mW l a1 b), .int .i64 (mY l a1 b), .int .i64 (mZ l a1 b)]) := fun G h => rmeasure_C G v l a a1 b h hg ha hab hb
  have hfr : fromA l a1 b ≤ b := Nat.min_le_right _ _
  have s1 := sums_bd hg b (by omega)
  have s2 := sums_bd hg (fromA l a1 b) (by omega)
  have hok := good_ok hg hb
  simp only [Item.ok, decide_eq_true_eq] at hok
  have hw : -(1073741824 * 2000) ≤ mW l a1 b ∧ mW l a1 b ≤ 1073741824 * 2000 := by
    unfold mW
    split <;> omega
  have hgx := hx
  simp only [Par.good, decide_eq_true_eq] at hgx
  rcases hv.cases with ⟨vb, vo, vc, rfl, _, hr⟩ | ⟨rfl, rfl⟩
  · have hlt : ∀ k, a1 ≤ k → k < b → forceB (at_ l k) = true → toldD l x a1 b = ⟨0, 0, false⟩ := fun k h1 h2 h3 => by
      have := foA_le (by omega) h1 h3
      rw [toldD, if_neg (by omega)]
    have hge : (∀ j, a1 ≤ j → j < b → forceB (at_ l j) = false) → toldD l x a1 b = judD l x a1 b ∧ b ≤ foA l a1 := fun h => by
      have := foA_ge (by omega) b hab (Nat.le_refl _) h
      exact ⟨by rw [toldD, if_pos this], this⟩
    have hjd : b ≤ foA l a1 → judD l x a1 b = if x.w - mW l a1 b < 0 then ⟨badD (-(x.w - mW l a1 b)) (mZ l a1 b), classD (-(x.w - mW l a1 b)) (mZ l a1 b) true, decide (badD (-(x.w - mW l a1 b)) (mZ l a1 b) ≤ x.tol) && decide (-(x.w - mW l a1 b) ≤ mZ l a1 b)⟩
      else ⟨badD (x.w - mW l a1 b) (mY l a1 b), classD (x.w - mW l a1 b) (mY l a1 b) false, decide (badD (x.w - mW l a1 b) (mY l a1 b) ≤ x.tol)⟩ := fun h => by
      have h' : (b : Int) ≤ foA l a1 := by omega
      unfold judD
      simp only [h', decide_true, Bool.true_and]
    clear s1 s2 hok hfr
    generalize mW l a1 b = w at *
    generalize mY l a1 b = y at *
    generalize mZ l a1 b = z at *
    obtain ⟨xw, tol, line, twice, odd⟩ := x
    simp only [Par.v] at hgx hx hjd ⊢
    refine C.go hT Try.func43 Try.ntmps43 ?_
    refine sq ?_
    refine rg ?_
    refine bx ?_
    refine al ?_
    refine nl ?_
    iterate 2 (refine sq ?_)
    refine rg ?_
    refine st (h := O) ?_
    refine st (h := sdA) ?_
    refine st (h := O) ?_
    refine nl ?_
    refine bl ?_
    rw [ha]
    refine J.loop1 (α := Nat) (fun i => a1 ≤ i ∧ i ≤ b ∧ ∀ j, a1 ≤ j → j < i → forceB (at_ l j) = false) (fun i => [(9, .int .i64 i)]) [(0, _), (1, _), (2, _), (7, _), (8, _)] (fun i => []) [(8, _), (7, _)] (fun i => b - i) (a1) (by exact ⟨rfl, trivial⟩) (by exact ⟨rfl, rfl, rfl, rfl, rfl, trivial⟩) (by exact ⟨rfl, rfl, rfl, rfl, trivial⟩) ?_ ?_
    · exact ⟨Nat.le_refl _, hab, fun j h1 h2 => by omega⟩
    · intro i L1 K1 e1 e2 hI
      dsimp only [apV, apR, List.cons_append, List.nil_append] at e1 e2
      subst e1 e2
      obtain ⟨hai, hib, hfo⟩ := hI
      iterate 2 (refine sq ?_)
      refine rg ?_
      iterate 3 (refine st (h := O) ?_)
      refine nl ?_
      refine cD (fun c0 => ?_) (fun c0 => ?_)
      · have hil : i < l.length := by omega
        obtain ⟨r0, r1, r2, r3, r4, r5, g, hg2, hri⟩ := hr i hil
        have hN : rdN F (Am.setK 0 {elem := 0, cs := [], room := 0} []) ⟨vb, vo + (i : Int).toNat * 11, none⟩ 11 = some ((at_ l i).cells g) := hg2
        have hN2 : ∀ K, rdN F K ⟨vb, vo + (i : Int).toNat * 11, none⟩ 11 = some ((at_ l i).cells g) := fun K => hg2
        have hsv := hri.sl
        rcases hri with (⟨gb, go, gc, rfl, _, _⟩ | ⟨rfl, _⟩) | ⟨gb, go, gsp, rfl, _⟩
        all_goals
          refine sk ?_
          refine sq ?_
          refine bl ?_
          refine sq ?_
          refine rg ?_
          iterate 2 (refine st (h := O) ?_)
          refine st (h := (sdX (z := 11))) ?_
          refine st (h := sdLN (hv := hN2 _)) ?_
          refine cl (h := by exact fun ι hV hl => rforced_C _ (at_ l i) _ hsv) ?_
          refine nl ?_
          refine cB (fun c1 => ?_) (fun c1 => ?_)
          · refine sq ?_
            refine rg ?_
            refine st (h := O) ?_
            refine so ?_
            refine nl ?_
            refine rt ⟨?_, rfl⟩
            rw [hlt i hai (by omega) c1]; rfl
          · refine sk ?_
            refine bk ?_
            refine rg ?_
            refine st (h := O) ?_
            refine st (h := sdA) ?_
            refine st (h := O) ?_
            refine nl ?_
            refine bk1 (i + 1) (by exact ⟨rfl, trivial⟩) (by exact ⟨rfl, rfl, rfl, rfl, rfl, trivial⟩) (by exact ⟨rfl, rfl, rfl, rfl, trivial⟩) ?_ ?_
            · omega
            · refine ⟨by omega, by omega, fun j h1 h2 => ?_⟩
              by_cases h : j = i
              · subst h; exact c1
              · exact hfo j h1 (by omega)
      · obtain rfl : i = b := by omega
        obtain ⟨ht1, ht2⟩ := hge hfo
        replace hjd := hjd ht2
        rw [ht1, hjd]
        refine ex ?_
        refine sq ?_
        refine rg ?_
        iterate 3 (refine st (h := O) ?_)
        refine cl (h := by exact fun ι hV hl => hM _ (hv.le hl)) ?_
        iterate 7 (refine st (h := O) ?_)
        refine nl ?_
        refine sq ?_
        refine rg ?_
        refine st (h := sdFA) ?_
        refine st (h := sdL) ?_
        refine st (h := O) ?_
        refine st (h := sdS) ?_
        refine st (h := O) ?_
        refine nl ?_
        iterate 2 (refine sq ?_)
        refine rg ?_
        iterate 2 (refine st (h := O) ?_)
        refine nl ?_
        refine cD (fun c2 => ?_) (fun c2 => ?_)
        · refine sq ?_
          refine rg ?_
          iterate 2 (refine st (h := O) ?_)
          refine cl (h := by exact fun ι hV hl => r23Bad_C _ _ _) ?_
          refine st (h := O) ?_
          refine nl ?_
          refine sq ?_
          refine dr 9 [8, 7] [0, 1, 2, 4, 5, 6, 7, 1003, 8, 1009] ?_
          iterate 4 (refine dt (hv := by exact O) ?_)
          refine dt (hv := by exact sdFA) ?_
          refine dt (hv := by exact sdL) ?_
          refine dt (hv := by exact O) ?_
          refine dcl (hkp := by first | exact Kept.all | exact Kept.k0 | exact Kept.kY) (h := by exact fun ι hV hl => r23Class_C _ _ _ _) ?_
          refine dt (hv := by exact O) ?_
          refine dso ?_
          refine dn ?_
          refine rt ⟨?_, rfl⟩
          first | rw [if_neg (by omega)] | rw [if_pos (by omega)]
          simp [judgV, *]
          try rfl
        · refine sk ?_
          refine sq ?_
          refine rg ?_
          refine st (h := O) ?_
          refine st (h := sdN) ?_
          refine st (h := O) ?_
          refine cl (h := by exact fun ι hV hl => r23Bad_C _ _ _) ?_
          refine st (h := O) ?_
          refine nl ?_
          refine sq ?_
          refine dr 16 [8, 7] [0, 1, 2, 3, 5, 6, 7, 8, 1004, 9, 10, 11, 12, 13, 14, 15, 1016] ?_
          iterate 2 (refine dt (hv := by exact O) ?_)
          refine dt (hv := by exact sdN) ?_
          iterate 2 (refine dt (hv := by exact O) ?_)
          refine dt (hv := by exact sdFA) ?_
          refine dt (hv := by exact sdL) ?_
          refine dt (hv := by exact O) ?_
          refine dcl (hkp := by first | exact Kept.all | exact Kept.k0 | exact Kept.kY) (h := by exact fun ι hV hl => r23Class_C _ _ _ _) ?_
          refine dt (hv := by exact O) ?_
          refine dgD (fun g68 => ?_) (fun g68 => ?_)
          · refine dg (hv := by exact O) ?_
            refine dg (hv := by exact sdN) ?_
            iterate 2 (refine dg (hv := by exact O) ?_)
            iterate 2 (refine dt (hv := by exact O) ?_)
            refine dso ?_
            refine dn ?_
            refine rt ⟨?_, rfl⟩
            first | rw [if_neg (by omega)] | rw [if_pos (by omega)]
            simp [judgV, *]
            try rfl
          · refine dp ?_
            iterate 3 (refine dp ?_)
            iterate 2 (refine dt (hv := by exact O) ?_)
            refine dso ?_
            refine dn ?_
            refine rt ⟨?_, rfl⟩
            first | rw [if_neg (by omega)] | rw [if_pos (by omega)]
            simp [judgV, *]
            try rfl
  · simp at hb

end Go.Proofs.Ytbeblgjibfoanaa.Am
