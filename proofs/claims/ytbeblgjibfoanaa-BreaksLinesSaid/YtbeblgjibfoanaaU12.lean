/- Contracts: the first fit -/
import Derived.Test.YtbeblgjibfoanaaU11
import Derived.Test.YtbeblgjibfoanaaU12a
namespace Go.Proofs.Ytbeblgjibfoanaa.Am
set_option linter.unusedSimpArgs false
set_option linter.unusedVariables false
set_option maxRecDepth 100000
set_option maxHeartbeats 4000000
open Go Go.RowKit
theorem legal_force {l : List Item} {i : Nat} (hi : i < l.length) (h : forceB (at_ l i) = true) : legalB l i = true := by
  simp only [forceB, decide_eq_true_eq] at h
  simp [legalB, hi, h]
/-- the least break behind a line's beginning, and the last one up to which all fits: of so many items -/
def scanF (l : List Item) (w : Int) (a1 : Nat) : Nat → Int × Int
  | 0 => (-1, -1)
  | m + 1 => if legalB l ((a1 + m : Nat) : Int) = true then (if (scanF l w a1 m).1 < 0 then ((a1 + m : Nat) : Int) else (scanF l w a1 m).1, if mW l a1 (a1 + m) - mZ l a1 (a1 + m) ≤ w then ((a1 + m : Nat) : Int) else (scanF l w a1 m).2)
    else scanF l w a1 m
def nextF (l : List Item) (w : Int) (a1 : Nat) : Int :=
  if (scanF l w a1 (foA l a1 + 1 - a1)).2 < 0 then (scanF l w a1 (foA l a1 + 1 - a1)).1 else (scanF l w a1 (foA l a1 + 1 - a1)).2
def pathF (l : List Item) (w : Int) : Nat → Nat → List Int
  | 0, _ => []
  | d + 1, a1 => if a1 < l.length then nextF l w a1 :: pathF l w d (nextF l w a1 + 1).toNat else []
def firstD (l : List Item) (x : Par) : List Int := if goodL l = true ∧ x.good = true then pathF l x.w l.length 0 else []
theorem scanF_bd (l : List Item) (w : Int) (a1 : Nat) : ∀ m, (-1 ≤ (scanF l w a1 m).1 ∧ (scanF l w a1 m).1 < a1 + m ∧ ((scanF l w a1 m).1 < 0 ∨ (a1 : Int) ≤ (scanF l w a1 m).1)) ∧ (-1 ≤ (scanF l w a1 m).2 ∧ (scanF l w a1 m).2 < a1 + m ∧ ((scanF l w a1 m).2 < 0 ∨ (a1 : Int) ≤ (scanF l w a1 m).2))
  | 0 => by simp [scanF]; omega
  | m + 1 => by
    have ih := scanF_bd l w a1 m
    simp only [scanF]
    split
    · dsimp only
      constructor <;> split <;> omega
    · omega
theorem scanF_legal (l : List Item) (w : Int) (a1 : Nat) : ∀ m k, k < m → legalB l ((a1 + k : Nat) : Int) = true → 0 ≤ (scanF l w a1 m).1
  | 0, k, h, _ => by omega
  | m + 1, k, h, hl => by
    simp only [scanF]
    by_cases hk : k = m
    · subst hk
      rw [if_pos hl]
      dsimp only
      split <;> omega
    · have ih := scanF_legal l w a1 m k (by omega) hl
      split
      · dsimp only
        split <;> omega
      · exact ih
theorem nextF_bd {l : List Item} (h : goodL l = true) (w : Int) {a1 : Nat} (ha : a1 < l.length) : (a1 : Int) ≤ nextF l w a1 ∧ nextF l w a1 < l.length := by
  obtain ⟨h1, h2, h3⟩ := foA_last h ha
  have h4 := scanF_legal l w a1 (foA l a1 + 1 - a1) (foA l a1 - a1) (by omega) (by rw [show a1 + (foA l a1 - a1) = foA l a1 from by omega]; exact legal_force h2 h3)
  have h5 := scanF_bd l w a1 (foA l a1 + 1 - a1)
  unfold nextF
  split <;> omega
theorem pathF_end (l : List Item) (w : Int) (d : Nat) : pathF l w d l.length = [] := by cases d <;> simp [pathF]
theorem First_C (F : Mem) (v : Value) (l : List Item) (x : Par) (hv : RItems F v l) : C Try.prog 18 [v, x.v] F (fun u Y => ∀ G, Rd G Y → RInts G u (firstD l x)) := by
  have hno : ¬ (goodL l = true ∧ x.good = true) → firstD l x = [] := fun h => by simp only [firstD, h, if_false]
  have hye : (goodL l = true ∧ x.good = true) → firstD l x = pathF l x.w l.length 0 := fun h => by simp only [firstD, h, and_self, if_true]
  obtain ⟨xw, tol, line, twice, odd⟩ := x
  dsimp only [Par.v]
  rcases hv.forms with ⟨vb, vo, vc, rfl⟩ | ⟨rfl, rfl⟩
  ·
    refine C.go hT Try.func18 Try.ntmps18 ?_
    refine sq ?_
    refine rg ?_
    refine bx ?_
    refine st (h := O) ?_
    refine nl ?_
    iterate 2 (refine sq ?_)
    refine rg ?_
    refine st (h := O) ?_
    refine cl (h := by exact fun ι hV hl => IGood_C _ _ l (hv.le hl)) ?_
    iterate 2 (refine st (h := O) ?_)
    refine gB (fun g15 => ?_) (fun g15 => ?_)
    · refine sp ?_
      iterate 2 (refine sp ?_)
      refine st (h := O) ?_
      refine nl ?_
      refine cT ?_
      refine sq ?_
      refine rg ?_
      refine st (h := O) ?_
      refine nl ?_
      refine rt (fun G hG => ?_)
      rw [hno (fun h => not_of g15 h.1)]
      exact .inr ⟨rfl, rfl⟩
    · refine sg (h := sdLN) ?_
      refine clg (h := by exact fun ι hV hl => Good_C _ ⟨xw, tol, line, twice, odd⟩) ?_
      refine sg (h := O) ?_
      refine st (h := O) ?_
      refine nl ?_
      refine cB (fun c0 => ?_) (fun c0 => ?_)
      · refine sq ?_
        refine rg ?_
        refine st (h := O) ?_
        refine nl ?_
        refine rt (fun G hG => ?_)
        rw [hno (fun h => not_of c0 h.2)]
        exact .inr ⟨rfl, rfl⟩
      · have hgl := of_not g15
        have hgx := of_not c0
        have hlen := good_len hgl
        rw [hye ⟨hgl, hgx⟩]
        have hgx2 := hgx
        simp only [Par.good, decide_eq_true_eq] at hgx2
        refine sk ?_
        refine sq ?_
        refine rg ?_
        refine st (h := O) ?_
        refine clC (h := by exact fun ι hV hl => ready_C _ (.slice (some ⟨vb, vo, none⟩) l.length vc) l (hv.le hl) hgl) ?_
        intro p Y hQ hpv hpp hN
        have hp := hQ _ (hv.le hN.le) hN.rows
        obtain ⟨pb, po, lb, lo, lc, wb, wo, wc, yb, yo, yc, zb, zo, zc, bb, bo, bc, fb, fo, fc, rfl, ⟨_, _, _, _, _, hf0⟩, _, hf8⟩ := id hp
        refine st (h := O) ?_
        refine nl ?_
        refine sq ?_
        refine rg ?_
        refine st (h := O) ?_
        refine nl ?_
        iterate 2 (refine sq ?_)
        refine rg ?_
        refine st (h := O) ?_
        refine nl ?_
        refine bl ?_
        refine J.loop4 (α := Option Nat) (β := Nat) (γ := List Value) (δ := Int) (fun o m cs a => -1 ≤ a ∧ a < l.length ∧ apB o m ∧ (m : Int) ≤ a + 1 ∧ cs.length = m ∧ ∃ xs d, cs = ivs xs ∧ l.length ≤ (a + 1).toNat + d ∧ pathF l xw l.length 0 = xs ++ pathF l xw d (a + 1).toNat) (fun o m cs a => [(6, apV 67 o m), (7, .int .i64 a)]) [(0, _), (3, _), (5, _)] (fun o m cs a => apR 67 3 1 true o cs ++ []) [(3, _)] (fun o m cs a => l.length - (a + 1).toNat) (none) (0) ([]) (-1) (by exact ⟨rfl, rfl, trivial⟩) (by exact ⟨rfl, rfl, rfl, trivial⟩) (by exact (by repeat' first | exact trivial | refine And.intro rfl ?_)) ?_ ?_
        · exact ⟨by omega, by omega, rfl, by omega, rfl, [], l.length, rfl, by omega, rfl⟩
        · intro o m cs a L1 K1 e1 e2 hI
          rcases o with _ | cap_o
          all_goals
            dsimp only [apV, apR, List.cons_append, List.nil_append] at e1 e2
            subst e1 e2
            obtain ⟨ha, hal, hap, hm, hcl, xs, d, rfl, hd, hpath⟩ := hI
            simp only [apB] at hap
            try (obtain rfl : m = 0 := hap; obtain rfl : xs = [] := List.eq_nil_of_length_eq_zero (by simpa [ivs] using hcl))
            iterate 2 (refine sq ?_)
            refine rg ?_
            iterate 3 (refine st (h := O) ?_)
            refine st (h := sdS) ?_
            refine st (h := O) ?_
            refine nl ?_
            refine cD (fun c1 => ?_) (fun c1 => ?_)
            · obtain ⟨a1, ha1⟩ := Int.eq_ofNat_of_zero_le (show (0 : Int) ≤ a + 1 by omega)
              have ha1l : a1 < l.length := by omega
              obtain ⟨_, _, _, _, hfo⟩ := hf8 a1 (by omega)
              have hfo' : look (F.add Y) ⟨fb, fo + (a + 1).toNat * 1, none⟩ = some (.int .i64 (foA l a1)) := by rw [ha1]; exact hfo
              obtain ⟨fl1, fl2, fl3⟩ := foA_last hgl ha1l
              have hnb := nextF_bd hgl xw ha1l
              refine sk ?_
              refine bl ?_
              refine sq ?_
              refine rg ?_
              iterate 2 (refine st (h := O) ?_)
              refine nl ?_
              iterate 2 (refine sq ?_)
              refine rg ?_
              refine st (h := O) ?_
              refine st (h := sdA) ?_
              refine st (h := O) ?_
              refine nl ?_
              refine bl ?_
              first | refine J.loop3 (α := Int) (β := Int) (γ := Int) (fun b least most => (a1 : Int) ≤ b ∧ b ≤ foA l a1 + 1 ∧ scanF l xw a1 (b - a1).toNat = (least, most)) (fun b least most => [(8, .int .i64 least), (9, .int .i64 most), (10, .int .i64 b)]) [(0, _), (3, _), (5, _), (6, _), (7, _)] (fun b least most => []) [(3, _), (67, _)] (fun b least most => (foA l a1 + 1 - b).toNat) (a + 1) (-1) (-1) (by exact ⟨rfl, rfl, rfl, trivial⟩) (by exact ⟨rfl, rfl, rfl, rfl, rfl, trivial⟩) (by exact ⟨rfl, rfl, rfl, rfl, trivial⟩) ?_ ?_ | refine J.loop3 (α := Int) (β := Int) (γ := Int) (fun b least most => (a1 : Int) ≤ b ∧ b ≤ foA l a1 + 1 ∧ scanF l xw a1 (b - a1).toNat = (least, most)) (fun b least most => [(8, .int .i64 least), (9, .int .i64 most), (10, .int .i64 b)]) [(0, _), (3, _), (5, _), (6, _), (7, _)] (fun b least most => []) [(3, _)] (fun b least most => (foA l a1 + 1 - b).toNat) (a + 1) (-1) (-1) (by exact ⟨rfl, rfl, rfl, trivial⟩) (by exact ⟨rfl, rfl, rfl, rfl, rfl, trivial⟩) (by exact ⟨rfl, rfl, trivial⟩) ?_ ?_
              · exact ⟨by omega, by omega, by rw [show (a + 1 - (a1 : Int)).toNat = 0 from by omega]; rfl⟩
              · intro b least most L1 K1 e1 e2 hI
                dsimp only [apV, apR, List.cons_append, List.nil_append] at e1 e2
                subst e1 e2
                obtain ⟨hb0, hb1, hsc⟩ := hI
                iterate 2 (refine sq ?_)
                refine rg ?_
                iterate 3 (refine st (h := O) ?_)
                refine st (h := sdFA) ?_
                refine st (h := sdL) ?_
                refine st (h := O) ?_
                refine st (h := sdA) ?_
                refine st (h := (sdX (z := 1))) ?_
                refine st (h := (by first | exact sdLG | exact sdW)) ?_
                refine st (h := O) ?_
                refine nl ?_
                refine cD (fun c2 => ?_) (fun c2 => ?_)
                · obtain ⟨b1, rfl⟩ := Int.eq_ofNat_of_zero_le (show (0 : Int) ≤ b by omega)
                  obtain ⟨k, rfl⟩ : ∃ k, b1 = a1 + k := ⟨b1 - a1, by omega⟩
                  rw [show ((a1 + k : Nat) : Int) - a1 = k from by omega, Int.toNat_natCast] at hsc
                  have hst : scanF l xw a1 (k + 1) = if legalB l ((a1 + k : Nat) : Int) = true then (if least < 0 then ((a1 + k : Nat) : Int) else least, if mW l a1 (a1 + k) - mZ l a1 (a1 + k) ≤ xw then ((a1 + k : Nat) : Int) else most) else (least, most) := by simp only [scanF, hsc]
                  have hmb := sums_bd hgl (a1 + k) (by omega)
                  refine sk ?_
                  refine sq ?_
                  refine bl ?_
                  iterate 2 (refine sq ?_)
                  refine rg ?_
                  iterate 2 (refine st (h := O) ?_)
                  refine cl (h := by exact fun ι hV hl => legal_C _ _ l _ (hp.le hl).head) ?_
                  refine st (h := O) ?_
                  refine nl ?_
                  refine cB (fun c3 => ?_) (fun c3 => ?_)
                  · refine ex ?_
                    refine rg ?_
                    refine st (h := O) ?_
                    refine st (h := sdA) ?_
                    refine st (h := O) ?_
                    refine nl ?_
                    refine bk3 (_) (_) (_) (by exact ⟨rfl, rfl, rfl, trivial⟩) (by exact ⟨rfl, rfl, rfl, rfl, rfl, trivial⟩) (by exact (by repeat' first | exact trivial | refine And.intro rfl ?_)) ?_ ?_
                    · omega
                    · refine ⟨by omega, by omega, ?_⟩
                      rw [show (((a1 + k : Nat) : Int) + 1 - a1).toNat = k + 1 from by omega, hst]
                      first
                        | rw [if_neg (not_of c3)]
                        | rw [if_pos (of_not c3)]; simp only [c4, c5, if_true, if_false]
                  · refine sk ?_
                    iterate 2 (refine sq ?_)
                    refine rg ?_
                    iterate 2 (refine st (h := O) ?_)
                    refine nl ?_
                    refine cD (fun c4 => ?_) (fun c4 => ?_)
                    · refine rg ?_
                      iterate 2 (refine st (h := O) ?_)
                      refine nl ?_
                      refine sq ?_
                      refine rg ?_
                      iterate 3 (refine st (h := O) ?_)
                      refine cl (h := by exact fun ι hV hl => measure_C _ _ l a a1 (a1 + k) (hp.le hl) hgl ha1 (by omega) (by omega)) ?_
                      have hfr : fromA l a1 (a1 + k) ≤ a1 + k := Nat.min_le_right _ _
                      have hmf := sums_bd hgl (fromA l a1 (a1 + k)) (by omega)
                      have hok := good_ok hgl (show a1 + k < l.length by omega)
                      simp only [Item.ok, decide_eq_true_eq] at hok
                      have hwb : -(1073741824 * 2000) ≤ mW l a1 (a1 + k) ∧ mW l a1 (a1 + k) ≤ 1073741824 * 2000 := by unfold mW; split <;> omega
                      have hzb : -(1073741824 * 2000) ≤ mZ l a1 (a1 + k) ∧ mZ l a1 (a1 + k) ≤ 1073741824 * 2000 := by unfold mZ; omega
                      refine al ?_
                      refine so ?_
                      refine nl ?_
                      refine sq ?_
                      refine rg ?_
                      refine st (h := sdFA) ?_
                      refine st (h := sdL) ?_
                      refine st (h := sdFA) ?_
                      refine st (h := sdL) ?_
                      refine st (h := sdS) ?_
                      refine st (h := sdFA) ?_
                      refine st (h := sdL) ?_
                      refine st (h := O) ?_
                      refine nl ?_
                      refine cD (fun c5 => ?_) (fun c5 => ?_)
                      · refine rg ?_
                        iterate 2 (refine st (h := O) ?_)
                        refine nl ?_
                        refine bk ?_
                        refine rg ?_
                        refine st (h := O) ?_
                        refine st (h := sdA) ?_
                        refine st (h := O) ?_
                        refine nl ?_
                        refine bk3 (_) (_) (_) (by exact ⟨rfl, rfl, rfl, trivial⟩) (by exact ⟨rfl, rfl, rfl, rfl, rfl, trivial⟩) (by exact (by repeat' first | exact trivial | refine And.intro rfl ?_)) ?_ ?_
                        · omega
                        · refine ⟨by omega, by omega, ?_⟩
                          rw [show (((a1 + k : Nat) : Int) + 1 - a1).toNat = k + 1 from by omega, hst]
                          first
                            | rw [if_neg (not_of c3)]
                            | rw [if_pos (of_not c3)]; simp only [c4, c5, if_true, if_false]
                      · refine sk ?_
                        refine bk ?_
                        refine rg ?_
                        refine st (h := O) ?_
                        refine st (h := sdA) ?_
                        refine st (h := O) ?_
                        refine nl ?_
                        refine bk3 (_) (_) (_) (by exact ⟨rfl, rfl, rfl, trivial⟩) (by exact ⟨rfl, rfl, rfl, rfl, rfl, trivial⟩) (by exact (by repeat' first | exact trivial | refine And.intro rfl ?_)) ?_ ?_
                        · omega
                        · refine ⟨by omega, by omega, ?_⟩
                          rw [show (((a1 + k : Nat) : Int) + 1 - a1).toNat = k + 1 from by omega, hst]
                          first
                            | rw [if_neg (not_of c3)]
                            | rw [if_pos (of_not c3)]; simp only [c4, c5, if_true, if_false]
                    · refine sk ?_
                      refine sq ?_
                      refine rg ?_
                      iterate 3 (refine st (h := O) ?_)
                      refine cl (h := by exact fun ι hV hl => measure_C _ _ l a a1 (a1 + k) (hp.le hl) hgl ha1 (by omega) (by omega)) ?_
                      have hfr : fromA l a1 (a1 + k) ≤ a1 + k := Nat.min_le_right _ _
                      have hmf := sums_bd hgl (fromA l a1 (a1 + k)) (by omega)
                      have hok := good_ok hgl (show a1 + k < l.length by omega)
                      simp only [Item.ok, decide_eq_true_eq] at hok
                      have hwb : -(1073741824 * 2000) ≤ mW l a1 (a1 + k) ∧ mW l a1 (a1 + k) ≤ 1073741824 * 2000 := by unfold mW; split <;> omega
                      have hzb : -(1073741824 * 2000) ≤ mZ l a1 (a1 + k) ∧ mZ l a1 (a1 + k) ≤ 1073741824 * 2000 := by unfold mZ; omega
                      refine al ?_
                      refine so ?_
                      refine nl ?_
                      refine sq ?_
                      refine rg ?_
                      refine st (h := sdFA) ?_
                      refine st (h := sdL) ?_
                      refine st (h := sdFA) ?_
                      refine st (h := sdL) ?_
                      refine st (h := sdS) ?_
                      refine st (h := sdFA) ?_
                      refine st (h := sdL) ?_
                      refine st (h := O) ?_
                      refine nl ?_
                      refine cD (fun c5 => ?_) (fun c5 => ?_)
                      · refine rg ?_
                        iterate 2 (refine st (h := O) ?_)
                        refine nl ?_
                        refine bk ?_
                        refine rg ?_
                        refine st (h := O) ?_
                        refine st (h := sdA) ?_
                        refine st (h := O) ?_
                        refine nl ?_
                        refine bk3 (_) (_) (_) (by exact ⟨rfl, rfl, rfl, trivial⟩) (by exact ⟨rfl, rfl, rfl, rfl, rfl, trivial⟩) (by exact (by repeat' first | exact trivial | refine And.intro rfl ?_)) ?_ ?_
                        · omega
                        · refine ⟨by omega, by omega, ?_⟩
                          rw [show (((a1 + k : Nat) : Int) + 1 - a1).toNat = k + 1 from by omega, hst]
                          first
                            | rw [if_neg (not_of c3)]
                            | rw [if_pos (of_not c3)]; simp only [c4, c5, if_true, if_false]
                      · refine sk ?_
                        refine bk ?_
                        refine rg ?_
                        refine st (h := O) ?_
                        refine st (h := sdA) ?_
                        refine st (h := O) ?_
                        refine nl ?_
                        refine bk3 (_) (_) (_) (by exact ⟨rfl, rfl, rfl, trivial⟩) (by exact ⟨rfl, rfl, rfl, rfl, rfl, trivial⟩) (by exact (by repeat' first | exact trivial | refine And.intro rfl ?_)) ?_ ?_
                        · omega
                        · refine ⟨by omega, by omega, ?_⟩
                          rw [show (((a1 + k : Nat) : Int) + 1 - a1).toNat = k + 1 from by omega, hst]
                          first
                            | rw [if_neg (not_of c3)]
                            | rw [if_pos (of_not c3)]; simp only [c4, c5, if_true, if_false]
                · obtain rfl : b = foA l a1 + 1 := by omega
                  have hnx : nextF l xw a1 = if most < 0 then least else most := by
                    unfold nextF
                    rw [show foA l a1 + 1 - a1 = ((foA l a1 : Int) + 1 - a1).toNat from by omega, hsc]
                  refine ex ?_
                  iterate 2 (refine sq ?_)
                  refine rg ?_
                  iterate 2 (refine st (h := O) ?_)
                  refine nl ?_
                  refine cD (fun c6 => ?_) (fun c6 => ?_)
                  · refine rg ?_
                    iterate 2 (refine st (h := O) ?_)
                    refine nl ?_
                    refine sq ?_
                    refine rg ?_
                    iterate 2 (refine st (h := O) ?_)
                    refine sl ?_
                    first | refine apN (news := [_]) 67 true [(0, _), (3, _), (5, _), (9, _)] [(3, _)] ?_ | refine apO (news := [_]) 1067 67 [(0, _), (3, _), (5, _), (9, _)] [(3, _)] ?_
                    intro cap67 hc67 hd67
                    refine st (h := O) ?_
                    refine nl ?_
                    refine rg ?_
                    iterate 2 (refine st (h := O) ?_)
                    refine nl ?_
                    refine bk ?_
                    refine bk4 (some _) (_) (_) (_) (by exact ⟨rfl, rfl, trivial⟩) (by exact ⟨rfl, rfl, rfl, trivial⟩) (by exact (by repeat' first | exact trivial | refine And.intro rfl ?_)) ?_ ?_
                    · omega
                    · have hnn : nextF l xw a1 = _ := hnx
                      simp only [c6, if_true, if_false] at hnn
                      obtain ⟨d, rfl⟩ : ∃ e, d = e + 1 := ⟨d - 1, by omega⟩
                      rw [ha1, Int.toNat_natCast, pathF, if_pos ha1l, hnn] at hpath
                      rw [hnn] at hnb
                      simp only [apB, List.length_append, List.length_cons, List.length_nil]
                      refine ⟨by omega, by omega, by omega, by omega, by first | trivial | omega, _ ++ [_], d, by first | exact ivs_snoc _ _ | exact ivs_snoc [] _, by omega, ?_⟩
                      rw [hpath, List.append_assoc]; rfl
                  · refine sk ?_
                    refine sq ?_
                    refine rg ?_
                    iterate 2 (refine st (h := O) ?_)
                    refine sl ?_
                    first | refine apN (news := [_]) 67 true [(0, _), (3, _), (5, _), (9, _)] [(3, _)] ?_ | refine apO (news := [_]) 1067 67 [(0, _), (3, _), (5, _), (9, _)] [(3, _)] ?_
                    intro cap67 hc67 hd67
                    refine st (h := O) ?_
                    refine nl ?_
                    refine rg ?_
                    iterate 2 (refine st (h := O) ?_)
                    refine nl ?_
                    refine bk ?_
                    refine bk4 (some _) (_) (_) (_) (by exact ⟨rfl, rfl, trivial⟩) (by exact ⟨rfl, rfl, rfl, trivial⟩) (by exact (by repeat' first | exact trivial | refine And.intro rfl ?_)) ?_ ?_
                    · omega
                    · have hnn : nextF l xw a1 = _ := hnx
                      simp only [c6, if_true, if_false] at hnn
                      obtain ⟨d, rfl⟩ : ∃ e, d = e + 1 := ⟨d - 1, by omega⟩
                      rw [ha1, Int.toNat_natCast, pathF, if_pos ha1l, hnn] at hpath
                      rw [hnn] at hnb
                      simp only [apB, List.length_append, List.length_cons, List.length_nil]
                      refine ⟨by omega, by omega, by omega, by omega, by first | trivial | omega, _ ++ [_], d, by first | exact ivs_snoc _ _ | exact ivs_snoc [] _, by omega, ?_⟩
                      rw [hpath, List.append_assoc]; rfl
            · obtain rfl : a = l.length - 1 := by omega
              refine ex ?_
              refine sq ?_
              refine rg ?_
              iterate 2 (refine st (h := O) ?_)
              refine nl ?_
              refine J.dropF ?_
              refine rtX fun ι hV G hG => ?_
              rw [show ((l.length : Int) - 1 + 1).toNat = l.length from by omega, pathF_end, List.append_nil] at hpath
              rw [hpath]
              first
                | exact .inr ⟨rfl, rfl⟩
                | (simp only [ivs_length] at hcl; subst hcl
                   exact hG.ivs (r := _) (ι := ι) (by repeat (first | exact List.mem_cons_self .. | apply List.mem_cons_of_mem)) rfl (by omega))
  ·
    refine C.go hT Try.func18 Try.ntmps18 ?_
    refine sq ?_
    refine rg ?_
    refine bx ?_
    refine st (h := O) ?_
    refine nl ?_
    iterate 2 (refine sq ?_)
    refine rg ?_
    refine st (h := O) ?_
    refine cl (h := by exact fun ι hV hl => IGood_C _ _ [] (hv.le hl)) ?_
    iterate 2 (refine st (h := O) ?_)
    refine gB (fun g15 => ?_) (fun g15 => ?_)
    · refine sp ?_
      iterate 2 (refine sp ?_)
      refine st (h := O) ?_
      refine nl ?_
      refine cT ?_
      refine sq ?_
      refine rg ?_
      refine st (h := O) ?_
      refine nl ?_
      refine rt (fun G hG => ?_)
      rw [hno (fun h => not_of g15 h.1)]
      exact .inr ⟨rfl, rfl⟩
    · cases of_not g15

end Go.Proofs.Ytbeblgjibfoanaa.Am
