/- Contracts: what a way costs -/
import Derived.Test.YtbeblgjibfoanaaU10
import Derived.Test.YtbeblgjibfoanaaU9
import Derived.Test.YtbeblgjibfoanaaU5
import Derived.Test.YtbeblgjibfoanaaB2
namespace Go.Proofs.Ytbeblgjibfoanaa.Am
set_option linter.unusedSimpArgs false
set_option linter.unusedVariables false
set_option maxRecDepth 100000
set_option maxHeartbeats 4000000
open Go Go.RowKit
/-- what a way's lines cost, one behind the other -/
def wayD (l : List Item) (x : Par) : List Int → Int → Int → Int → Int × Bool
  | [], _, _, sum => (sum, true)
  | b :: bs, a, cls, sum => if a < b ∧ legalB l b = true then
      (if (judD l x (a + 1).toNat b.toNat).fits = true then wayD l x bs b (judD l x (a + 1).toNat b.toNat).cls (sum + demD l x (judD l x (a + 1).toNat b.toNat).bad (judD l x (a + 1).toNat b.toNat).cls cls a b) else (0, false))
    else (0, false)
def costD (l : List Item) (at' : List Int) (x : Par) : Int × Bool :=
  if goodL l = true ∧ x.good = true ∧ 0 < at'.length ∧ ints at' (at'.length - 1) = l.length - 1 then wayD l x at' (-1) 1 0 else (0, false)
theorem legal_lt {l : List Item} {i : Int} (h : legalB l i = true) : 0 ≤ i ∧ i < l.length := by
  simp only [legalB, Bool.and_eq_true, decide_eq_true_eq] at h
  exact h.1
theorem class0 : classD 0 0 false = 1 := by decide
theorem demD_bd (l : List Item) (x : Par) (bad cls prev a b : Int) : -100000000 ≤ demD l x bad cls prev a b ∧ demD l x bad cls prev a b ≤ 223000000 := by
  have hl := lineD_bd x.line bad (costA l b)
  have hm := moreD_bd prev cls (flagA l a) (flagA l b) x
  unfold demD
  omega
theorem wayD_step {l : List Item} {x : Par} {b a cls sum : Int} {bs : List Int} (h : a < b ∧ legalB l b = true) (hf : (judD l x (a + 1).toNat b.toNat).fits = true) : wayD l x (b :: bs) a cls sum = wayD l x bs b (judD l x (a + 1).toNat b.toNat).cls (sum + demD l x (judD l x (a + 1).toNat b.toNat).bad (judD l x (a + 1).toNat b.toNat).cls cls a b) := by
  simp only [wayD, h, and_self, if_true, hf]
theorem wayD_bad {l : List Item} {x : Par} {b a cls sum : Int} {bs : List Int} (h : ¬ (a < b ∧ legalB l b = true)) : wayD l x (b :: bs) a cls sum = (0, false) := by
  simp only [wayD, h, if_false]
theorem wayD_off {l : List Item} {x : Par} {b a cls sum : Int} {bs : List Int} (hf : ¬ (judD l x (a + 1).toNat b.toNat).fits = true) : wayD l x (b :: bs) a cls sum = (0, false) := by
  simp only [wayD, hf, Bool.false_eq_true, if_false, ite_self]
theorem drop_cons {xs : List Int} {k : Nat} (h : k < xs.length) : xs.drop k = ints xs k :: xs.drop (k + 1) := by
  rw [List.drop_eq_getElem_cons h]
  simp [ints, List.getD_eq_getElem?_getD, List.getElem?_eq_getElem h]
theorem Cost_C (F : Mem) (v u : Value) (l : List Item) (at' : List Int) (x : Par) (hv : RItems F v l) (hu : RInts F u at') : C0 Try.prog 30 [v, u, x.v] F (.tuple #[.int .i64 (costD l at' x).1, .bool (costD l at' x).2]) := by
  have hcd : ¬ (goodL l = true ∧ x.good = true ∧ 0 < at'.length ∧ ints at' (at'.length - 1) = l.length - 1) → costD l at' x = (0, false) := fun h => by simp only [costD, h, if_false]
  have hcg : (goodL l = true ∧ x.good = true ∧ 0 < at'.length ∧ ints at' (at'.length - 1) = l.length - 1) → costD l at' x = wayD l x at' (-1) 1 0 := fun h => by simp only [costD, h, and_self, if_true]
  rcases hv.forms with ⟨vb, vo, vc, rfl⟩ | ⟨rfl, rfl⟩
  · rcases hu with ⟨ab, ao, ac, rfl, hal, har⟩ | ⟨rfl, rfl⟩
    · have hlast : 0 < at'.length → look F ⟨ab, ao + ((at'.length : Int) - 1).toNat * 1, none⟩ = some (.int .i64 (ints at' (at'.length - 1))) := fun h => by
        rw [Nat.mul_one]
        have := har (at'.length - 1) _ (ints_get (by omega))
        rwa [show ((at'.length : Int) - 1).toNat = at'.length - 1 from by omega]
      have hix : ∀ k, k < at'.length → look F ⟨ab, ao + (k : Int).toNat * 1, none⟩ = some (.int .i64 (ints at' k)) := fun k h => by
        rw [Nat.mul_one]
        exact har k _ (ints_get h)
      obtain ⟨xw, tol, line, twice, odd⟩ := x
      dsimp only [Par.v]
      refine C.go hT Try.func30 Try.ntmps30 ?_
      refine sq ?_
      refine rg ?_
      refine bx ?_
      iterate 2 (refine st (h := O) ?_)
      refine nl ?_
      iterate 2 (refine sq ?_)
      refine rg ?_
      refine st (h := O) ?_
      refine cl (h := by exact fun ι hV hl => IGood_C _ _ l (hv.le hl)) ?_
      iterate 2 (refine st (h := O) ?_)
      refine gB (fun g18 => ?_) (fun g18 => ?_)
      · refine sp ?_
        iterate 2 (refine sp ?_)
        iterate 2 (refine st (h := O) ?_)
        iterate 3 (refine sp ?_)
        iterate 2 (refine st (h := O) ?_)
        iterate 10 (refine sp ?_)
        refine st (h := O) ?_
        refine nl ?_
        refine cT ?_
        refine sq ?_
        refine rg ?_
        iterate 2 (refine st (h := O) ?_)
        refine nl ?_
        refine rt ⟨?_, rfl⟩
        rw [hcd (by rintro ⟨h, -⟩; simp [h] at g18)]
      · have hlen := good_len (l := l) (by simpa using g18)
        refine sg (h := sdLN) ?_
        refine clg (h := by exact fun ι hV hl => Good_C _ ⟨xw, tol, line, twice, odd⟩) ?_
        refine sg (h := O) ?_
        iterate 2 (refine st (h := O) ?_)
        refine gB (fun g23 => ?_) (fun g23 => ?_)
        · refine sp ?_
          iterate 2 (refine sp ?_)
          iterate 2 (refine st (h := O) ?_)
          iterate 10 (refine sp ?_)
          refine st (h := O) ?_
          refine nl ?_
          refine cT ?_
          refine sq ?_
          refine rg ?_
          iterate 2 (refine st (h := O) ?_)
          refine nl ?_
          refine rt ⟨?_, rfl⟩
          rw [hcd (by rintro ⟨-, h, -⟩; simp [h] at g23)]
        · refine sg (h := O) ?_
          iterate 2 (refine sg (h := O) ?_)
          iterate 2 (refine st (h := O) ?_)
          refine gD (fun g28 => ?_) (fun g28 => ?_)
          · refine sp ?_
            iterate 9 (refine sp ?_)
            refine st (h := O) ?_
            refine nl ?_
            refine cT ?_
            refine sq ?_
            refine rg ?_
            iterate 2 (refine st (h := O) ?_)
            refine nl ?_
            refine rt ⟨?_, rfl⟩
            rw [hcd (by simp; omega)]
          · have hpos : 0 < at'.length := by omega
            have hlk := hlast hpos
            iterate 3 (refine sg (h := O) ?_)
            refine sg (h := sdS) ?_
            refine sg (h := (sdX (z := 1))) ?_
            refine sg (h := (by first | exact sdLG | exact sdW)) ?_
            iterate 2 (refine sg (h := O) ?_)
            refine sg (h := sdS) ?_
            refine sg (h := O) ?_
            refine st (h := O) ?_
            refine nl ?_
            refine cN (fun c0 => ?_) (fun c0 => ?_)
            · refine sq ?_
              refine rg ?_
              iterate 2 (refine st (h := O) ?_)
              refine nl ?_
              refine rt ⟨?_, rfl⟩
              rw [hcd (by simp only [not_and]; intros; omega)]
            · have hgl : goodL l = true := by simpa using g18
              have hgx : Par.good ⟨xw, tol, line, twice, odd⟩ = true := by simpa using g23
              rw [hcg ⟨hgl, hgx, hpos, by omega⟩]
              clear hcd hcg hlk hlast
              refine sk ?_
              refine sq ?_
              refine rg ?_
              refine st (h := O) ?_
              refine clC (h := by exact fun ι hV hl => ready_C _ (.slice (some ⟨vb, vo, none⟩) l.length vc) l (hv.le hl) hgl) ?_
              intro p Y hQ hpv hpp hN
              have hp := hQ _ (hv.le hN.le) hN.rows
              obtain ⟨pb, po, lb, lo, lc, wb, wo, wc, yb, yo, yc, zb, zo, zc, bb, bo, bc, fb, fo, fc, rfl, hp2⟩ := id hp
              clear hp2
              replace hix : ∀ k, k < at'.length → look (F.add Y) ⟨ab, ao + (k : Int).toNat * 1, none⟩ = some (.int .i64 (ints at' k)) := fun k hk => hN.le _ _ (hix k hk)
              refine st (h := O) ?_
              refine nl ?_
              refine sq ?_
              refine rg ?_
              refine cl (h := by exact fun ι hV hl => Class_C _ _ _ _) ?_
              rw [class0]
              iterate 3 (refine st (h := O) ?_)
              refine nl ?_
              iterate 2 (refine sq ?_)
              refine rg ?_
              iterate 3 (refine st (h := O) ?_)
              refine nl ?_
              refine bl ?_
              refine J.loop4 (α := Nat) (β := Int) (γ := Int) (δ := Int) (fun k a cls sum => k ≤ at'.length ∧ -1 ≤ a ∧ a < l.length ∧ (k : Int) ≤ a + 1 ∧ (-100000000 * (k : Int) ≤ sum ∧ sum ≤ 223000000 * (k : Int)) ∧ wayD l ⟨xw, tol, line, twice, odd⟩ (at'.drop k) a cls sum = wayD l ⟨xw, tol, line, twice, odd⟩ at' (-1) 1 0) (fun k a cls sum => [(9, .int .i64 sum), (10, .int .i64 a), (11, .int .i64 cls), (45, .int .i64 k)]) [(5, _), (8, _), (43, _), (44, _)] (fun k a cls sum => []) [(5, _)] (fun k a cls sum => at'.length - k) (0) (-1) (1) (0) (by exact ⟨rfl, rfl, rfl, rfl, trivial⟩) (by exact ⟨rfl, rfl, rfl, rfl, trivial⟩) (by exact ⟨rfl, rfl, trivial⟩) ?_ ?_
              · exact ⟨by omega, by omega, by omega, by omega, by omega, rfl⟩
              · intro k a cls sum L1 K1 e1 e2 hI
                dsimp only [apV, apR, List.cons_append, List.nil_append] at e1 e2
                subst e1 e2
                obtain ⟨hk, ha, hal2, hka, hsum, hway⟩ := hI
                refine sq ?_
                refine rg ?_
                refine st (h := O) ?_
                refine nl ?_
                refine sq ?_
                refine cD (fun c1 => ?_) (fun c1 => ?_)
                · have hkl : k < at'.length := by omega
                  have hlk := hix k hkl
                  rw [drop_cons hkl] at hway
                  generalize ints at' k = b at *
                  refine sk ?_
                  refine sq ?_
                  refine bl ?_
                  refine sq ?_
                  refine rg ?_
                  refine st (h := (sdX (z := 1))) ?_
                  refine st (h := (by first | exact sdLG | exact sdW)) ?_
                  refine st (h := O) ?_
                  refine nl ?_
                  iterate 2 (refine sq ?_)
                  refine rg ?_
                  iterate 4 (refine st (h := O) ?_)
                  refine gD (fun g52 => ?_) (fun g52 => ?_)
                  · refine sp ?_
                    iterate 3 (refine sp ?_)
                    refine st (h := O) ?_
                    refine nl ?_
                    refine cT ?_
                    refine sq ?_
                    refine rg ?_
                    iterate 2 (refine st (h := O) ?_)
                    refine nl ?_
                    refine J.dropF ?_
                    refine rt ⟨?_, rfl⟩
                    rw [← hway, wayD_bad (by omega)]
                  · refine sg (h := O) ?_
                    refine sg (h := O) ?_
                    refine clg (h := by exact fun ι hV hl => legal_C _ _ l _ (hp.le hl).head) ?_
                    refine sg (h := O) ?_
                    refine st (h := O) ?_
                    refine nl ?_
                    refine cB (fun c2 => ?_) (fun c2 => ?_)
                    · refine sq ?_
                      refine rg ?_
                      iterate 2 (refine st (h := O) ?_)
                      refine nl ?_
                      refine J.dropF ?_
                      refine rt ⟨?_, rfl⟩
                      have hb2 : legalB l b = false := by simpa using c2
                      rw [← hway, wayD_bad (by simp [hb2])]
                    · have hleg : legalB l b = true := by simpa using c2
                      have hb := legal_lt hleg
                      obtain ⟨a1, ha1⟩ := Int.eq_ofNat_of_zero_le (show (0 : Int) ≤ a + 1 by omega)
                      obtain ⟨b1, hb1⟩ := Int.eq_ofNat_of_zero_le hb.1
                      subst hb1
                      refine sk ?_
                      refine sq ?_
                      refine rg ?_
                      iterate 3 (refine st (h := O) ?_)
                      refine st (h := sdLN) ?_
                      refine cl (h := by exact fun ι hV hl => judge_C _ _ l a a1 b1 ⟨xw, tol, line, twice, odd⟩ (hp.le hl) hgl ha1 (by omega) (by omega) hgx) ?_
                      refine al ?_
                      refine so ?_
                      refine nl ?_
                      iterate 2 (refine sq ?_)
                      refine rg ?_
                      refine st (h := sdFA) ?_
                      refine st (h := sdL) ?_
                      refine st (h := O) ?_
                      refine nl ?_
                      refine cB (fun c3 => ?_) (fun c3 => ?_)
                      · refine sq ?_
                        refine rg ?_
                        iterate 2 (refine st (h := O) ?_)
                        refine nl ?_
                        refine J.dropF ?_
                        refine rt ⟨?_, rfl⟩
                        rw [← hway, wayD_off (by simpa [ha1] using c3)]
                      · refine sk ?_
                        refine sq ?_
                        refine rg ?_
                        iterate 2 (refine st (h := O) ?_)
                        refine st (h := sdLN) ?_
                        iterate 3 (refine st (h := O) ?_)
                        refine st (h := sdLN) ?_
                        refine cl (h := by exact fun ι hV hl => demerits_C _ _ l _ _ _ _ _ _ _ _ _ ⟨xw, tol, line, twice, odd⟩ (hp.le hl) (by omega) (by omega)) ?_
                        have hdb := demD_bd l ⟨xw, tol, line, twice, odd⟩ (judD l ⟨xw, tol, line, twice, odd⟩ a1 b1).bad (judD l ⟨xw, tol, line, twice, odd⟩ a1 b1).cls cls a b1
                        refine st (h := sdA) ?_
                        refine st (h := O) ?_
                        refine nl ?_
                        refine dr 5 [14, 5] [0, 1, 2, 3, 4] ?_
                        refine dt (hv := by exact O) ?_
                        refine dt (hv := by exact sdFA) ?_
                        refine dt (hv := by exact sdL) ?_
                        iterate 2 (refine dt (hv := by exact O) ?_)
                        refine dn ?_
                        refine bk ?_
                        refine rg ?_
                        refine st (h := sdA) ?_
                        refine st (h := O) ?_
                        refine nl ?_
                        refine bk4 (k + 1) (_) (_) (_) (by exact ⟨rfl, rfl, rfl, rfl, trivial⟩) (by exact ⟨rfl, rfl, rfl, rfl, trivial⟩) (by exact ⟨rfl, rfl, trivial⟩) ?_ ?_
                        · omega
                        · refine ⟨by omega, by omega, by omega, by omega, by omega, ?_⟩
                          rw [← hway, wayD_step ⟨by omega, hleg⟩ (by simpa [ha1] using c3)]
                          simp only [ha1, Int.toNat_natCast]
                · have hkl : k = at'.length := by omega
                  subst hkl
                  rw [List.drop_length] at hway
                  refine ex ?_
                  refine sq ?_
                  refine rg ?_
                  iterate 3 (refine st (h := O) ?_)
                  refine nl ?_
                  refine J.dropF ?_
                  refine rt ⟨?_, rfl⟩
                  rw [← hway]; rfl
    · obtain ⟨xw, tol, line, twice, odd⟩ := x
      dsimp only [Par.v]
      refine C.go hT Try.func30 Try.ntmps30 ?_
      refine sq ?_
      refine rg ?_
      refine bx ?_
      iterate 2 (refine st (h := O) ?_)
      refine nl ?_
      iterate 2 (refine sq ?_)
      refine rg ?_
      refine st (h := O) ?_
      refine cl (h := by exact fun ι hV hl => IGood_C _ _ l (hv.le hl)) ?_
      iterate 2 (refine st (h := O) ?_)
      refine gB (fun g18 => ?_) (fun g18 => ?_)
      · refine sp ?_
        iterate 2 (refine sp ?_)
        iterate 2 (refine st (h := O) ?_)
        iterate 3 (refine sp ?_)
        iterate 2 (refine st (h := O) ?_)
        iterate 10 (refine sp ?_)
        refine st (h := O) ?_
        refine nl ?_
        refine cT ?_
        refine sq ?_
        refine rg ?_
        iterate 2 (refine st (h := O) ?_)
        refine nl ?_
        exact rt ⟨by rw [hcd (by simp)], rfl⟩
      · refine sg (h := sdLN) ?_
        refine clg (h := by exact fun ι hV hl => Good_C _ ⟨xw, tol, line, twice, odd⟩) ?_
        refine sg (h := O) ?_
        iterate 2 (refine st (h := O) ?_)
        refine gB (fun g23 => ?_) (fun g23 => ?_)
        · refine sp ?_
          iterate 2 (refine sp ?_)
          iterate 2 (refine st (h := O) ?_)
          iterate 10 (refine sp ?_)
          refine st (h := O) ?_
          refine nl ?_
          refine cT ?_
          refine sq ?_
          refine rg ?_
          iterate 2 (refine st (h := O) ?_)
          refine nl ?_
          exact rt ⟨by rw [hcd (by simp)], rfl⟩
        · refine sg (h := O) ?_
          iterate 2 (refine sg (h := O) ?_)
          iterate 2 (refine st (h := O) ?_)
          refine gD (fun g28 => ?_) (fun g28 => ?_)
          · refine sp ?_
            iterate 9 (refine sp ?_)
            refine st (h := O) ?_
            refine nl ?_
            refine cT ?_
            refine sq ?_
            refine rg ?_
            iterate 2 (refine st (h := O) ?_)
            refine nl ?_
            exact rt ⟨by rw [hcd (by simp)], rfl⟩
          · exact absurd rfl g28
  · have hsl : (∃ b o n c, u = .slice (some ⟨b, o, none⟩) n c) ∨ ∃ n c, u = .slice none n c := hu.sl
    obtain ⟨xw, tol, line, twice, odd⟩ := x
    dsimp only [Par.v]
    rcases hsl with ⟨b, o, n, c, rfl⟩ | ⟨n, c, rfl⟩
    all_goals
      refine C.go hT Try.func30 Try.ntmps30 ?_
      refine sq ?_
      refine rg ?_
      refine bx ?_
      iterate 2 (refine st (h := O) ?_)
      refine nl ?_
      iterate 2 (refine sq ?_)
      refine rg ?_
      refine st (h := O) ?_
      refine cl (h := by exact fun ι hV hl => IGood_C _ _ [] (hv.le hl)) ?_
      iterate 2 (refine st (h := O) ?_)
      refine gB (fun g18 => ?_) (fun g18 => ?_)
      · refine sp ?_
        iterate 2 (refine sp ?_)
        iterate 2 (refine st (h := O) ?_)
        iterate 3 (refine sp ?_)
        iterate 2 (refine st (h := O) ?_)
        iterate 10 (refine sp ?_)
        refine st (h := O) ?_
        refine nl ?_
        refine cT ?_
        refine sq ?_
        refine rg ?_
        iterate 2 (refine st (h := O) ?_)
        refine nl ?_
        exact rt ⟨by rw [hcd (by rintro ⟨h, -⟩; cases h)], rfl⟩
      · cases g18
/-- of a line that may be: what it measures -/
def lineB (l : List Item) (a b : Int) : Bool := goodL l && legalB l b && decide (a < b) && (decide (a = -1) || legalB l a)
def measD (l : List Item) (a b : Int) : Int × Int × Int := if lineB l a b = true then (mW l (a + 1).toNat b.toNat, mY l (a + 1).toNat b.toNat, mZ l (a + 1).toNat b.toNat) else (0, 0, 0)
theorem lineB_no {l : List Item} {a b : Int} (h : ¬ lineB l a b = true) : measD l a b = (0, 0, 0) := by simp [measD, h]
theorem lineB_iff {l : List Item} {a b : Int} : lineB l a b = true ↔ ((goodL l && legalB l b) = true ∧ a < b ∧ (a = -1 ∨ (goodL l && legalB l a) = true)) := by
  simp only [lineB, Bool.and_eq_true, Bool.or_eq_true, decide_eq_true_eq]
  constructor
  · rintro ⟨⟨⟨h1, h2⟩, h3⟩, h4⟩; exact ⟨⟨h1, h2⟩, h3, h4.imp id fun h => ⟨h1, h⟩⟩
  · rintro ⟨⟨h1, h2⟩, h3, h4⟩; exact ⟨⟨⟨h1, h2⟩, h3⟩, h4.imp id fun h => h.2⟩
theorem lineB_facts {l : List Item} {a b : Int} (h : lineB l a b = true) : goodL l = true ∧ 0 ≤ b ∧ b < l.length ∧ -1 ≤ a ∧ a < b := by
  simp only [lineB, Bool.and_eq_true, Bool.or_eq_true, decide_eq_true_eq] at h
  obtain ⟨⟨⟨h1, h2⟩, h3⟩, h4⟩ := h
  have := legal_lt h2
  rcases h4 with h4 | h4
  · exact ⟨h1, by omega, by omega, by omega, h3⟩
  · have := legal_lt h4
    exact ⟨h1, by omega, by omega, by omega, h3⟩
theorem not_of {b : Bool} (h : (!b) = true) : ¬ b = true := by simpa using h
theorem of_not {b : Bool} (h : (!b) = false) : b = true := by simpa using h
theorem Measure_C (F : Mem) (v : Value) (l : List Item) (a b : Int) (hv : RItems F v l) : C0 Try.prog 25 [v, .int .i64 a, .int .i64 b] F (.tuple #[.int .i64 (measD l a b).1, .int .i64 (measD l a b).2.1, .int .i64 (measD l a b).2.2]) := by
  rcases hv.forms with ⟨vb, vo, vc, rfl⟩ | ⟨rfl, rfl⟩
  ·
    refine C.go hT Try.func25 Try.ntmps25 ?_
    refine sq ?_
    refine rg ?_
    iterate 3 (refine st (h := O) ?_)
    refine nl ?_
    iterate 2 (refine sq ?_)
    refine rg ?_
    iterate 2 (refine st (h := O) ?_)
    refine cl (h := by exact fun ι hV hl => Legal_C _ _ l _ (hv.le hl)) ?_
    iterate 2 (refine st (h := O) ?_)
    refine gB (fun g14 => ?_) (fun g14 => ?_)
    · refine sp ?_
      iterate 2 (refine sp ?_)
      iterate 2 (refine st (h := O) ?_)
      iterate 3 (refine sp ?_)
      iterate 4 (refine su ?_)
      refine sp ?_
      refine st (h := O) ?_
      refine nl ?_
      refine cT ?_
      refine sq ?_
      refine rg ?_
      iterate 3 (refine st (h := O) ?_)
      refine nl ?_
      refine rt ⟨?_, rfl⟩
      rw [lineB_no (fun h => not_of g14 (lineB_iff.1 h).1)]
    · refine sg (h := O) ?_
      iterate 2 (refine sg (h := O) ?_)
      iterate 2 (refine st (h := O) ?_)
      refine gD (fun g19 => ?_) (fun g19 => ?_)
      · refine sp ?_
        iterate 2 (refine sp ?_)
        iterate 4 (refine su ?_)
        refine sp ?_
        refine st (h := O) ?_
        refine nl ?_
        refine cT ?_
        refine sq ?_
        refine rg ?_
        iterate 3 (refine st (h := O) ?_)
        refine nl ?_
        refine rt ⟨?_, rfl⟩
        rw [lineB_no (fun h => by have := (lineB_iff.1 h).2.1; omega)]
      · refine sg (h := O) ?_
        iterate 2 (refine sg (h := O) ?_)
        refine gN (fun g22 => ?_) (fun g22 => ?_)
        · refine sg (h := O) ?_
          refine sg (h := O) ?_
          refine clg (h := by exact fun ι hV hl => Legal_C _ _ l _ (hv.le hl)) ?_
          iterate 2 (refine sg (h := O) ?_)
          refine st (h := O) ?_
          refine nl ?_
          refine cB (fun c0 => ?_) (fun c0 => ?_)
          · refine sq ?_
            refine rg ?_
            iterate 3 (refine st (h := O) ?_)
            refine nl ?_
            refine rt ⟨?_, rfl⟩
            rw [lineB_no (fun h => by rcases (lineB_iff.1 h).2.2 with h | h; · exact absurd h (by omega)
                                      · exact not_of c0 h)]
          · have hB : lineB l a b = true := lineB_iff.2 ⟨of_not g14, by omega, by first | exact .inr (of_not c0) | exact .inl (by omega)⟩
            obtain ⟨hgl, hb0, hbl, ha0, hab⟩ := lineB_facts hB
            obtain ⟨a1, ha1⟩ := Int.eq_ofNat_of_zero_le (show (0 : Int) ≤ a + 1 by omega)
            obtain ⟨b1, rfl⟩ := Int.eq_ofNat_of_zero_le hb0
            refine sk ?_
            refine sq ?_
            refine rg ?_
            refine st (h := O) ?_
            refine clC (h := by exact fun ι hV hl => ready_C _ (.slice (some ⟨vb, vo, none⟩) l.length vc) l (hv.le hl) hgl) ?_
            intro p Y hQ hpv hpp hN
            have hp := hQ _ (hv.le hN.le) hN.rows
            obtain ⟨pb, po, lb, lo, lc, wb, wo, wc, yb, yo, yc, zb, zo, zc, bb, bo, bc, fb, fo, fc, rfl, hp2⟩ := id hp
            clear hp2
            iterate 2 (refine st (h := O) ?_)
            refine cl (h := by exact fun ι hV hl => measure_C _ _ l a a1 b1 (hp.le hl) hgl ha1 (by omega) (by omega)) ?_
            refine al ?_
            refine so ?_
            refine nl ?_
            refine sq ?_
            refine dr 9 [9] [0, 1, 2, 3, 4, 5, 6, 7, 8] ?_
            refine dt (hv := by exact sdFA) ?_
            refine dt (hv := by exact sdL) ?_
            refine dt (hv := by exact sdFA) ?_
            refine dt (hv := by exact sdL) ?_
            refine dt (hv := by exact sdFA) ?_
            refine dt (hv := by exact sdL) ?_
            iterate 3 (refine dt (hv := by exact O) ?_)
            refine dn ?_
            refine J.dropF ?_
            refine rt ⟨?_, rfl⟩
            simp only [measD, if_pos hB, ha1, Int.toNat_natCast]
        · have hB : lineB l a b = true := lineB_iff.2 ⟨of_not g14, by omega, by first | exact .inr (of_not c0) | exact .inl (by omega)⟩
          obtain ⟨hgl, hb0, hbl, ha0, hab⟩ := lineB_facts hB
          obtain ⟨a1, ha1⟩ := Int.eq_ofNat_of_zero_le (show (0 : Int) ≤ a + 1 by omega)
          obtain ⟨b1, rfl⟩ := Int.eq_ofNat_of_zero_le hb0
          iterate 4 (refine sp ?_)
          refine sg (h := O) ?_
          refine st (h := O) ?_
          refine nl ?_
          refine cF ?_
          refine sk ?_
          refine sq ?_
          refine rg ?_
          refine st (h := O) ?_
          refine clC (h := by exact fun ι hV hl => ready_C _ (.slice (some ⟨vb, vo, none⟩) l.length vc) l (hv.le hl) hgl) ?_
          intro p Y hQ hpv hpp hN
          have hp := hQ _ (hv.le hN.le) hN.rows
          obtain ⟨pb, po, lb, lo, lc, wb, wo, wc, yb, yo, yc, zb, zo, zc, bb, bo, bc, fb, fo, fc, rfl, hp2⟩ := id hp
          clear hp2
          iterate 2 (refine st (h := O) ?_)
          refine cl (h := by exact fun ι hV hl => measure_C _ _ l a a1 b1 (hp.le hl) hgl ha1 (by omega) (by omega)) ?_
          refine al ?_
          refine so ?_
          refine nl ?_
          refine sq ?_
          refine dr 9 [9] [0, 1, 2, 3, 4, 5, 6, 7, 8] ?_
          refine dt (hv := by exact sdFA) ?_
          refine dt (hv := by exact sdL) ?_
          refine dt (hv := by exact sdFA) ?_
          refine dt (hv := by exact sdL) ?_
          refine dt (hv := by exact sdFA) ?_
          refine dt (hv := by exact sdL) ?_
          iterate 3 (refine dt (hv := by exact O) ?_)
          refine dn ?_
          refine J.dropF ?_
          refine rt ⟨?_, rfl⟩
          simp only [measD, if_pos hB, ha1, Int.toNat_natCast]
  · have h0 : measD [] a b = (0, 0, 0) := lineB_no (fun h => by cases (lineB_facts h).1)
    rw [h0]
    refine C.go hT Try.func25 Try.ntmps25 ?_
    refine sq ?_
    refine rg ?_
    iterate 3 (refine st (h := O) ?_)
    refine nl ?_
    iterate 2 (refine sq ?_)
    refine rg ?_
    iterate 2 (refine st (h := O) ?_)
    refine cl (h := by exact fun ι hV hl => Legal_C _ _ [] _ (hv.le hl)) ?_
    iterate 2 (refine st (h := O) ?_)
    refine gB (fun g14 => ?_) (fun g14 => ?_)
    · refine sp ?_
      iterate 2 (refine sp ?_)
      iterate 2 (refine st (h := O) ?_)
      iterate 3 (refine sp ?_)
      iterate 4 (refine su ?_)
      refine sp ?_
      refine st (h := O) ?_
      refine nl ?_
      refine cT ?_
      refine sq ?_
      refine rg ?_
      iterate 3 (refine st (h := O) ?_)
      refine nl ?_
      exact rt ⟨rfl, rfl⟩
    · cases of_not g14
def fitsD (l : List Item) (a b : Int) (x : Par) : Bool := x.good && lineB l a b && (judD l x (a + 1).toNat b.toNat).fits
theorem Fits_C (F : Mem) (v : Value) (l : List Item) (a b : Int) (x : Par) (hv : RItems F v l) : C0 Try.prog 24 [v, .int .i64 a, .int .i64 b, x.v] F (.bool (fitsD l a b x)) := by
  have hno : ¬ lineB l a b = true → fitsD l a b x = false := fun h => by simp [fitsD, h]
  have hno2 : ¬ x.good = true → fitsD l a b x = false := fun h => by simp [fitsD, h]
  have hye : x.good = true → lineB l a b = true → fitsD l a b x = (judD l x (a + 1).toNat b.toNat).fits := fun h1 h2 => by simp [fitsD, h1, h2]
  obtain ⟨xw, tol, line, twice, odd⟩ := x
  dsimp only [Par.v]
  rcases hv.forms with ⟨vb, vo, vc, rfl⟩ | ⟨rfl, rfl⟩
  ·
    refine C.go hT Try.func24 Try.ntmps24 ?_
    refine sq ?_
    refine rg ?_
    refine bx ?_
    refine st (h := O) ?_
    refine nl ?_
    iterate 2 (refine sq ?_)
    refine rg ?_
    refine st (h := sdLN) ?_
    refine cl (h := by exact fun ι hV hl => Good_C _ ⟨xw, tol, line, twice, odd⟩) ?_
    iterate 2 (refine st (h := O) ?_)
    refine gB (fun g12 => ?_) (fun g12 => ?_)
    · refine sp ?_
      iterate 3 (refine sp ?_)
      iterate 2 (refine st (h := O) ?_)
      iterate 3 (refine sp ?_)
      iterate 2 (refine st (h := O) ?_)
      iterate 3 (refine sp ?_)
      iterate 4 (refine su ?_)
      refine sp ?_
      refine st (h := O) ?_
      refine nl ?_
      refine cT ?_
      refine sq ?_
      refine rg ?_
      refine st (h := O) ?_
      refine nl ?_
      refine rt ⟨?_, rfl⟩
      rw [hno2 (not_of g12)]
    · refine sg (h := O) ?_
      refine sg (h := O) ?_
      refine clg (h := by exact fun ι hV hl => Legal_C _ _ l _ (hv.le hl)) ?_
      refine sg (h := O) ?_
      iterate 2 (refine st (h := O) ?_)
      refine gB (fun g18 => ?_) (fun g18 => ?_)
      · refine sp ?_
        iterate 2 (refine sp ?_)
        iterate 2 (refine st (h := O) ?_)
        iterate 3 (refine sp ?_)
        iterate 4 (refine su ?_)
        refine sp ?_
        refine st (h := O) ?_
        refine nl ?_
        refine cT ?_
        refine sq ?_
        refine rg ?_
        refine st (h := O) ?_
        refine nl ?_
        refine rt ⟨?_, rfl⟩
        rw [hno (fun h => not_of g18 (lineB_iff.1 h).1)]
      · refine sg (h := O) ?_
        iterate 2 (refine sg (h := O) ?_)
        iterate 2 (refine st (h := O) ?_)
        refine gD (fun g23 => ?_) (fun g23 => ?_)
        · refine sp ?_
          iterate 2 (refine sp ?_)
          iterate 4 (refine su ?_)
          refine sp ?_
          refine st (h := O) ?_
          refine nl ?_
          refine cT ?_
          refine sq ?_
          refine rg ?_
          refine st (h := O) ?_
          refine nl ?_
          refine rt ⟨?_, rfl⟩
          rw [hno (fun h => by have := (lineB_iff.1 h).2.1; omega)]
        · refine sg (h := O) ?_
          iterate 2 (refine sg (h := O) ?_)
          refine gN (fun g26 => ?_) (fun g26 => ?_)
          · refine sg (h := O) ?_
            refine sg (h := O) ?_
            refine clg (h := by exact fun ι hV hl => Legal_C _ _ l _ (hv.le hl)) ?_
            iterate 2 (refine sg (h := O) ?_)
            refine st (h := O) ?_
            refine nl ?_
            refine cB (fun c0 => ?_) (fun c0 => ?_)
            · refine sq ?_
              refine rg ?_
              refine st (h := O) ?_
              refine nl ?_
              refine rt ⟨?_, rfl⟩
              rw [hno (fun h => by rcases (lineB_iff.1 h).2.2 with h | h; · exact absurd h (by omega)
                                   · exact not_of c0 h)]
            · have hB : lineB l a b = true := lineB_iff.2 ⟨of_not g18, by omega, by first | exact .inr (of_not c0) | exact .inl (by omega)⟩
              obtain ⟨hgl, hb0, hbl, ha0, hab⟩ := lineB_facts hB
              obtain ⟨a1, ha1⟩ := Int.eq_ofNat_of_zero_le (show (0 : Int) ≤ a + 1 by omega)
              obtain ⟨b1, rfl⟩ := Int.eq_ofNat_of_zero_le hb0
              refine sk ?_
              refine sq ?_
              refine dr 8 [7] [0, 2, 3, 4, 1001, 1005, 6, 7] ?_
              iterate 3 (refine dt (hv := by exact O) ?_)
              refine dt (hv := by exact sdLN) ?_
              refine dclC (hkp := by first | exact Kept.all | exact Kept.k0 | exact Kept.kY) (h := by exact fun ι hV hl => ready_C _ (.slice (some ⟨vb, vo, none⟩) l.length vc) l (hv.le hl) hgl) ?_
              intro p Y hQ hpv hpp hN
              have hp := hQ _ (hv.le hN.le) hN.rows
              obtain ⟨pb, po, lb, lo, lc, wb, wo, wc, yb, yo, yc, zb, zo, zc, bb, bo, bc, fb, fo, fc, rfl, hp2⟩ := id hp
              clear hp2
              refine dcl (hkp := by first | exact Kept.all | exact Kept.k0 | exact Kept.kY) (h := by exact fun ι hV hl => judge_C _ _ l a a1 b1 ⟨xw, tol, line, twice, odd⟩ (hp.le hl) hgl ha1 (by omega) (by omega) (of_not g12)) ?_
              iterate 2 (refine dt (hv := by exact O) ?_)
              refine dn ?_
              refine J.dropF ?_
              refine rt ⟨?_, rfl⟩
              rw [hye (of_not g12) hB]
              simp only [ha1, Int.toNat_natCast]
          · have hB : lineB l a b = true := lineB_iff.2 ⟨of_not g18, by omega, by first | exact .inr (of_not c0) | exact .inl (by omega)⟩
            obtain ⟨hgl, hb0, hbl, ha0, hab⟩ := lineB_facts hB
            obtain ⟨a1, ha1⟩ := Int.eq_ofNat_of_zero_le (show (0 : Int) ≤ a + 1 by omega)
            obtain ⟨b1, rfl⟩ := Int.eq_ofNat_of_zero_le hb0
            iterate 4 (refine sp ?_)
            refine sg (h := O) ?_
            refine st (h := O) ?_
            refine nl ?_
            refine cF ?_
            refine sk ?_
            refine sq ?_
            refine dr 8 [7] [0, 2, 3, 4, 1001, 1005, 6, 7] ?_
            iterate 3 (refine dt (hv := by exact O) ?_)
            refine dt (hv := by exact sdLN) ?_
            refine dclC (hkp := by first | exact Kept.all | exact Kept.k0 | exact Kept.kY) (h := by exact fun ι hV hl => ready_C _ (.slice (some ⟨vb, vo, none⟩) l.length vc) l (hv.le hl) hgl) ?_
            intro p Y hQ hpv hpp hN
            have hp := hQ _ (hv.le hN.le) hN.rows
            obtain ⟨pb, po, lb, lo, lc, wb, wo, wc, yb, yo, yc, zb, zo, zc, bb, bo, bc, fb, fo, fc, rfl, hp2⟩ := id hp
            clear hp2
            refine dcl (hkp := by first | exact Kept.all | exact Kept.k0 | exact Kept.kY) (h := by exact fun ι hV hl => judge_C _ _ l a a1 b1 ⟨xw, tol, line, twice, odd⟩ (hp.le hl) hgl ha1 (by omega) (by omega) (of_not g12)) ?_
            iterate 2 (refine dt (hv := by exact O) ?_)
            refine dn ?_
            refine J.dropF ?_
            refine rt ⟨?_, rfl⟩
            rw [hye (of_not g12) hB]
            simp only [ha1, Int.toNat_natCast]
  · have h0 := hno (fun h => by cases (lineB_facts h).1)
    rw [h0]
    refine C.go hT Try.func24 Try.ntmps24 ?_
    refine sq ?_
    refine rg ?_
    refine bx ?_
    refine st (h := O) ?_
    refine nl ?_
    iterate 2 (refine sq ?_)
    refine rg ?_
    refine st (h := sdLN) ?_
    refine cl (h := by exact fun ι hV hl => Good_C _ ⟨xw, tol, line, twice, odd⟩) ?_
    iterate 2 (refine st (h := O) ?_)
    refine gB (fun g12 => ?_) (fun g12 => ?_)
    · refine sp ?_
      iterate 3 (refine sp ?_)
      iterate 2 (refine st (h := O) ?_)
      iterate 3 (refine sp ?_)
      iterate 2 (refine st (h := O) ?_)
      iterate 3 (refine sp ?_)
      iterate 4 (refine su ?_)
      refine sp ?_
      refine st (h := O) ?_
      refine nl ?_
      refine cT ?_
      refine sq ?_
      refine rg ?_
      refine st (h := O) ?_
      refine nl ?_
      exact rt ⟨rfl, rfl⟩
    · refine sg (h := O) ?_
      refine sg (h := O) ?_
      refine clg (h := by exact fun ι hV hl => Legal_C _ _ [] _ (hv.le hl)) ?_
      refine sg (h := O) ?_
      iterate 2 (refine st (h := O) ?_)
      refine gB (fun g18 => ?_) (fun g18 => ?_)
      · refine sp ?_
        iterate 2 (refine sp ?_)
        iterate 2 (refine st (h := O) ?_)
        iterate 3 (refine sp ?_)
        iterate 4 (refine su ?_)
        refine sp ?_
        refine st (h := O) ?_
        refine nl ?_
        refine cT ?_
        refine sq ?_
        refine rg ?_
        refine st (h := O) ?_
        refine nl ?_
        exact rt ⟨rfl, rfl⟩
      · cases of_not g18

end Go.Proofs.Ytbeblgjibfoanaa.Am
