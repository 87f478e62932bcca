/- Contracts: the best way -/
import Derived.Test.YtbeblgjibfoanaaU13
import Derived.Test.YtbeblgjibfoanaaB2
namespace Go.Proofs.Ytbeblgjibfoanaa.Am
set_option linter.unusedSimpArgs false
set_option linter.unusedVariables false
set_option maxRecDepth 100000
set_option maxHeartbeats 4000000
open Go Go.RowKit
/-- the table, where it lies -/
def TB (l : List Item) (T : Nat → Int) (t : Nat → Nat → Int × Int) : Prop := ∀ i c, i < l.length → c < 4 → T (i * 8 + c) = (t i c).1 ∧ T (i * 8 + 4 + c) = (t i c).2
def setR (t : Nat → Nat → Int × Int) (a1 : Nat) (acc : Nat → Int × Int) : Nat → Nat → Int × Int := fun i => if i = a1 then acc else t i
theorem TB.at {l : List Item} {T : Nat → Int} {t : Nat → Nat → Int × Int} (h : TB l T t) {i c k : Nat} (hi : i < l.length) (hc : c < 4) (hk : k = i * 8 + c) : T k = (t i c).1 := hk ▸ (h i c hi hc).1
theorem TB.at4 {l : List Item} {T : Nat → Int} {t : Nat → Nat → Int × Int} (h : TB l T t) {i c k : Nat} (hi : i < l.length) (hc : c < 4) (hk : k = i * 8 + 4 + c) : T k = (t i c).2 := hk ▸ (h i c hi hc).2
theorem setR_id {t : Nat → Nat → Int × Int} {a1 : Nat} {acc : Nat → Int × Int} (h : t a1 = acc) : setR t a1 acc = t := by
  funext i
  unfold setR
  split
  · rename_i e; rw [e, h]
  · rfl
theorem TB.cong {l : List Item} {T : Nat → Int} {t : Nat → Nat → Int × Int} {a1 : Nat} {acc acc' : Nat → Int × Int} (h : TB l T (setR t a1 acc)) (he : ∀ c, c < 4 → acc' c = acc c) : TB l T (setR t a1 acc') := by
  intro i c hi hc
  have := h i c hi hc
  unfold setR at this ⊢
  split
  · rename_i e
    rw [if_pos e] at this
    rw [he c hc]; exact this
  · rename_i e
    rw [if_neg e] at this
    exact this
theorem TB.upd {l : List Item} {T : Nat → Int} {t : Nat → Nat → Int × Int} {a1 c A B : Nat} {acc acc' : Nat → Int × Int} {p q : Int} (h : TB l T (setR t a1 acc)) (hc : c < 4) (hA : A = a1 * 8 + c) (hB : B = a1 * 8 + 4 + c) (h1 : acc' c = (p, q)) (he : ∀ c', c' < 4 → c' ≠ c → acc' c' = acc c') : TB l (setI (setI T A p) B q) (setR t a1 acc') := by
  subst hA hB
  intro i c' hi hc'
  have := h i c' hi hc'
  unfold setR at this ⊢
  by_cases e : i = a1
  · subst e
    rw [if_pos rfl] at this ⊢
    by_cases e2 : c' = c
    · subst e2
      have n1 : i * 8 + c' ≠ i * 8 + 4 + c' := by omega
      simp [setI, h1, n1]
    · have n1 : i * 8 + c' ≠ i * 8 + c := by omega
      have n2 : i * 8 + c' ≠ i * 8 + 4 + c := by omega
      have n3 : i * 8 + 4 + c' ≠ i * 8 + 4 + c := by omega
      have n4 : i * 8 + 4 + c' ≠ i * 8 + c := by omega
      simp only [setI, n1, n2, n3, n4, if_false, he c' hc' e2]
      exact this
  · rw [if_neg e] at this ⊢
    have n1 : i * 8 + c' ≠ a1 * 8 + c := by omega
    have n2 : i * 8 + c' ≠ a1 * 8 + 4 + c := by omega
    have n3 : i * 8 + 4 + c' ≠ a1 * 8 + 4 + c := by omega
    have n4 : i * 8 + 4 + c' ≠ a1 * 8 + c := by omega
    simp only [setI, n1, n2, n3, n4, if_false]
    exact this
theorem pathB_end (l : List Item) (x : Par) (t : Nat → Nat → Int × Int) (d : Nat) (cls : Int) : pathB l x t d l.length cls = [] := by cases d <;> simp [pathB]
theorem Best_C (F : Mem) (v : Value) (l : List Item) (x : Par) (hv : RItems F v l) : C Try.prog 15 [v, x.v] F (fun u Y => ∃ w, u = .tuple #[w, .int .i64 (bestD l x).2.1, .bool (bestD l x).2.2] ∧ SlV w ∧ ∀ G, Rd G Y → RInts G w (bestD l x).1) := by
  have hno : ¬ (goodL l = true ∧ x.good = true ∧ (tabD l x l.length 0 1).1 ≠ 0) → bestD l x = ([], 0, false) := fun h => by simp only [bestD]; rw [if_neg h]
  have hye : (goodL l = true ∧ x.good = true ∧ (tabD l x l.length 0 1).1 ≠ 0) → bestD l x = (pathB l x (tabD l x l.length) l.length 0 1, (tabD l x l.length 0 1).2, true) := fun h => by simp only [bestD]; rw [if_pos h]
  obtain ⟨xw, tol, line, twice, odd⟩ := x
  generalize hx : (⟨xw, tol, line, twice, odd⟩ : Par) = x at *
  have hxv : x.v = .agg #[.int .i64 xw, .int .i64 tol, .int .i64 line, .int .i64 twice, .int .i64 odd] := by rw [← hx]; rfl
  have hGd : ∀ G : Mem, C0 Try.prog 34 [.agg #[.int .i64 xw, .int .i64 tol, .int .i64 line, .int .i64 twice, .int .i64 odd]] G (.bool x.good) := fun G => by rw [← hxv]; exact Good_C G x
  have hJ : ∀ (G : Mem) {p : Value}, RPara G p l → ∀ (a : Int) (a1 b : Nat), goodL l = true → x.good = true → a + 1 = a1 → a1 ≤ l.length → b < l.length → C0 Try.prog 38 [p, .int .i64 a, .int .i64 b, .agg #[.int .i64 xw, .int .i64 tol, .int .i64 line, .int .i64 twice, .int .i64 odd]] G (judV l x a1 b) := fun G p hp a a1 b h1 h2 h3 h4 h5 => by rw [← hxv]; exact judge_C G p l a a1 b x hp h1 h3 h4 h5 h2
  have hDm : ∀ (G : Mem) {p : Value}, RPara G p l → ∀ (w y z bad cls prev a b : Int) (fits : Bool), a < l.length → b < l.length → C0 Try.prog 39 [p, lineV w y z bad cls fits, .int .i64 prev, .int .i64 a, .int .i64 b, .agg #[.int .i64 xw, .int .i64 tol, .int .i64 line, .int .i64 twice, .int .i64 odd]] G (.int .i64 (demD l x bad cls prev a b)) := fun G p hp w y z bad cls prev a b fits h1 h2 => by rw [← hxv]; exact demerits_C G p l w y z bad cls prev a b fits x hp h1 h2
  rw [hxv]
  rcases hv.forms with ⟨vb, vo, vc, rfl⟩ | ⟨rfl, rfl⟩
  ·
    refine C.go hT Try.func15 Try.ntmps15 ?_
    refine sq ?_
    refine rg ?_
    refine bx ?_
    iterate 3 (refine st (h := O) ?_)
    refine nl ?_
    refine sc ?_
    iterate 2 (refine sq ?_)
    refine rg ?_
    refine st (h := O) ?_
    refine cl (h := by exact fun ι hV hl => IGood_C _ _ l (hv.le hl)) ?_
    iterate 2 (refine st (h := O) ?_)
    refine gB (fun g23 => ?_) (fun g23 => ?_)
    · refine sp ?_
      iterate 2 (refine sp ?_)
      refine st (h := O) ?_
      refine nl ?_
      refine cT ?_
      refine sq ?_
      refine rg ?_
      iterate 3 (refine st (h := O) ?_)
      refine nl ?_
      refine rt ⟨_, ?_, .inr ⟨0, 0, rfl⟩, fun G hG => ?_⟩
      · rw [hno (fun h => not_of g23 h.1)]
      · rw [hno (fun h => not_of g23 h.1)]; exact .inr ⟨rfl, rfl⟩
    · refine sg (h := sdLN) ?_
      refine clg (h := by exact fun ι hV hl => hGd _) ?_
      refine sg (h := O) ?_
      refine st (h := O) ?_
      refine nl ?_
      refine cB (fun c0 => ?_) (fun c0 => ?_)
      · refine sq ?_
        refine rg ?_
        iterate 3 (refine st (h := O) ?_)
        refine nl ?_
        refine rt ⟨_, ?_, .inr ⟨0, 0, rfl⟩, fun G hG => ?_⟩
        · rw [hno (fun h => not_of c0 h.2.1)]
        · rw [hno (fun h => not_of c0 h.2.1)]; exact .inr ⟨rfl, rfl⟩
      · have hgl := of_not g23
        have hgx := of_not c0
        have hlen := good_len hgl
        refine sk ?_
        refine sq ?_
        refine rg ?_
        refine st (h := O) ?_
        refine clC (h := by exact fun ι hV hl => ready_C _ (.slice (some ⟨vb, vo, none⟩) l.length vc) l (hv.le hl) hgl) ?_
        intro p Y hQ hpv hpp hN
        have hp := hQ _ (hv.le hN.le) hN.rows
        obtain ⟨pb, po, qb, qo, qc, wb, wo, wc, yb, yo, yc, zb, zo, zc, bb, bo, bc, fb, fo, fc, rfl, ⟨_, _, _, _, _, hf0⟩, _, hf8⟩ := id hp
        refine st (h := O) ?_
        refine nl ?_
        refine sq ?_
        refine rg ?_
        iterate 2 (refine st (h := O) ?_)
        refine st (h := sdS) ?_
        refine st (h := O) ?_
        refine nl ?_
        refine sq ?_
        refine rg ?_
        refine st (h := O) ?_
        refine st (h := sdA) ?_
        refine mk ?_
        rw [zer_gIn (s := 8)]
        rotate_left
        · rfl
        rw [show ((l.length : Int) - 1 + 1).toNat * 8 = l.length * 8 from by omega]
        refine st (h := O) ?_
        refine nl ?_
        refine sq ?_
        refine lb ?_
        iterate 2 (refine sq ?_)
        refine rg ?_
        refine st (h := O) ?_
        refine st (h := sdS) ?_
        refine st (h := O) ?_
        refine nl ?_
        refine bl ?_
        refine J.loop3 (α := Int) (β := Nat) (γ := Nat → Int) (fun a k T => -2 ≤ a ∧ a + k + 2 = l.length ∧ TB l T (tabD l x k)) (fun a k T => [(10, .int .i64 a)]) [(3, _), (7, _), (8, _), (9, _)] (fun a k T => [(35, { elem := 69, cs := gI T (l.length * 8), room := l.length * 8, flat := true })]) [(3, _)] (fun a k T => (a + 2).toNat) (_) (0) (_) (by exact ⟨rfl, trivial⟩) (by exact ⟨rfl, rfl, rfl, rfl, trivial⟩) (by exact ⟨rfl, rfl, rfl, rfl, trivial⟩) ?_ ?_
        · exact ⟨by omega, by omega, fun i c _ _ => ⟨rfl, rfl⟩⟩
        · intro a k T L1 K1 e1 e2 hI
          dsimp only [apV, apR, List.cons_append, List.nil_append] at e1 e2
          subst e1 e2
          obtain ⟨ha, hak, hTb⟩ := hI
          iterate 2 (refine sq ?_)
          refine rg ?_
          iterate 2 (refine st (h := O) ?_)
          refine nl ?_
          refine cD (fun c1 => ?_) (fun c1 => ?_)
          · obtain ⟨a1, ha1⟩ := Int.eq_ofNat_of_zero_le (show (0 : Int) ≤ a + 1 by omega)
            obtain rfl : a = (a1 : Int) - 1 := by omega
            have ha1l : a1 < l.length := by omega
            have e1 : ((a1 : Int) - 1 + 1).toNat = a1 := by omega
            obtain ⟨_, _, _, _, hfo⟩ := hf8 a1 (by omega)
            have hfo' : look (F.add Y) ⟨fb, fo + ((a1 : Int) - 1 + 1).toNat * 1, none⟩ = some (.int .i64 (foA l a1)) := by rw [e1]; exact hfo
            obtain ⟨fl1, fl2, fl3⟩ := foA_last hgl ha1l
            have hmin : min (foA l a1 : Int) ((l.length : Int) - 1) = foA l a1 := by omega
            have hrow : (a1 = 0 ∨ legalB l ((a1 : Int) - 1) = true) → tabD l x (k + 1) = setR (tabD l x k) a1 (bRow l x (tabD l x k) a1 (foA l a1 + 1 - a1)) := fun h => by
              funext i
              simp only [tabD, setR]
              by_cases hi : i = a1
              · rw [if_pos (by omega), if_pos hi, hi, rowD, if_pos h]
              · rw [if_neg (by omega), if_neg hi]
            have hrow0 : ¬ (a1 = 0 ∨ legalB l ((a1 : Int) - 1) = true) → tabD l x (k + 1) = tabD l x k := fun h => by
              funext i
              simp only [tabD]
              by_cases hi : i = a1
              · rw [if_pos (by omega), hi, rowD, if_neg h, tabD_none (by omega)]
              · rw [if_neg (by omega)]
            have htk : ∀ i c, i < l.length → TabOk l i (tabD l x k i c) := fun i c h => tabD_ok hgl k i c h
            refine sk ?_
            refine sq ?_
            refine bl ?_
            refine sc ?_
            iterate 2 (refine sq ?_)
            refine rg ?_
            iterate 3 (refine st (h := O) ?_)
            refine gD (fun g44 => ?_) (fun g44 => ?_)
            · refine sg (h := O) ?_
              refine sg (h := O) ?_
              refine clg (h := by exact fun ι hV hl => legal_C _ _ l _ (hp.le hl).head) ?_
              refine sg (h := O) ?_
              refine st (h := O) ?_
              refine nl ?_
              refine cB (fun c2 => ?_) (fun c2 => ?_)
              · refine ex ?_
                refine rg ?_
                refine st (h := O) ?_
                refine st (h := sdS) ?_
                refine st (h := O) ?_
                refine nl ?_
                refine bk3 (_) (k + 1) (_) (by exact ⟨rfl, trivial⟩) (by exact ⟨rfl, rfl, rfl, rfl, trivial⟩) (by exact ⟨rfl, rfl, rfl, rfl, trivial⟩) ?_ ?_
                · omega
                · refine ⟨by omega, by omega, ?_⟩
                  have hlf := not_of c2
                  rw [hrow0 (by rintro (h | h); · omega
                                · exact hlf h)]
                  exact hTb
              · refine sk ?_
                refine sq ?_
                refine rg ?_
                iterate 2 (refine st (h := O) ?_)
                refine st (h := sdA) ?_
                refine st (h := (sdX (z := 8))) ?_
                refine st (h := O) ?_
                refine nl ?_
                refine sq ?_
                refine lb ?_
                refine sq ?_
                refine rg ?_
                refine st (h := O) ?_
                refine st (h := sdA) ?_
                refine st (h := O) ?_
                refine nl ?_
                refine bl ?_
                refine J.loop2 (α := Int) (β := Nat → Int) (fun b T' => (a1 : Int) ≤ b ∧ b ≤ foA l a1 + 1 ∧ TB l T' (setR (tabD l x k) a1 (bRow l x (tabD l x k) a1 (b - a1).toNat))) (fun b T' => [(12, .int .i64 b)]) [(3, _), (7, _), (8, _), (9, _), (10, _), (11, _)] (fun b T' => [(35, { elem := 69, cs := gI T' (l.length * 8), room := l.length * 8, flat := true })]) [(3, _)] (fun b T' => (foA l a1 + 1 - b).toNat) (_) (_) (by exact ⟨rfl, trivial⟩) (by exact ⟨rfl, rfl, rfl, rfl, rfl, rfl, trivial⟩) (by exact ⟨rfl, rfl, rfl, rfl, trivial⟩) ?_ ?_
                · refine ⟨by omega, by omega, ?_⟩
                  rw [show ((a1 : Int) - 1 + 1 - a1).toNat = 0 from by omega, setR_id (by rw [tabD_none (by omega)]; rfl)]
                  exact hTb
                · intro b T' L1 K1 e1 e2 hI
                  dsimp only [apV, apR, List.cons_append, List.nil_append] at e1 e2
                  subst e1 e2
                  obtain ⟨hb0, hb1, hT'⟩ := hI
                  iterate 2 (refine sq ?_)
                  refine rg ?_
                  iterate 3 (refine st (h := O) ?_)
                  refine st (h := sdFA) ?_
                  refine st (h := sdL) ?_
                  refine st (h := O) ?_
                  refine st (h := sdA) ?_
                  refine st (h := (sdX (z := 1))) ?_
                  refine st (h := (by first | exact sdLG | exact sdW)) ?_
                  iterate 3 (refine st (h := O) ?_)
                  refine nl ?_
                  refine cD (fun c3 => ?_) (fun c3 => ?_)
                  · rw [hmin] at c3
                    obtain ⟨b1, rfl⟩ := Int.eq_ofNat_of_zero_le (show (0 : Int) ≤ b by omega)
                    obtain ⟨m, rfl⟩ : ∃ m, b1 = a1 + m := ⟨b1 - a1, by omega⟩
                    rw [show ((a1 + m : Nat) : Int) - a1 = m from by omega, Int.toNat_natCast] at hT'
                    have hbl : a1 + m < l.length := by omega
                    have hj := judD_cls l x a1 (a1 + m)
                    refine sk ?_
                    refine sq ?_
                    refine bl ?_
                    iterate 2 (refine sq ?_)
                    refine rg ?_
                    iterate 2 (refine st (h := O) ?_)
                    refine cl (h := by exact fun ι hV hl => legal_C _ _ l _ (hp.le hl).head) ?_
                    refine st (h := O) ?_
                    refine nl ?_
                    refine cB (fun c4 => ?_) (fun c4 => ?_)
                    · refine ex ?_
                      refine rg ?_
                      refine st (h := O) ?_
                      refine st (h := sdA) ?_
                      refine st (h := O) ?_
                      refine nl ?_
                      refine bk2 (_) (_) (by exact ⟨rfl, trivial⟩) (by exact ⟨rfl, rfl, rfl, rfl, rfl, rfl, trivial⟩) (by exact ⟨rfl, rfl, rfl, rfl, trivial⟩) ?_ ?_
                      · omega
                      · refine ⟨by omega, by omega, ?_⟩
                        rw [show (((a1 + m : Nat) : Int) + 1 - a1).toNat = m + 1 from by omega, bRow, if_neg (by simp only [okB, Bool.and_eq_true]; exact fun h => not_of c4 h.1)]
                        exact hT'
                    · refine sk ?_
                      refine sq ?_
                      refine rg ?_
                      iterate 3 (refine st (h := O) ?_)
                      refine st (h := sdLN) ?_
                      refine cl (h := by exact fun ι hV hl => hJ _ (hp.le hl) _ a1 (a1 + m) hgl hgx ha1 (by omega) (by omega)) ?_
                      refine al ?_
                      refine so ?_
                      refine nl ?_
                      iterate 2 (refine sq ?_)
                      refine dr 20 [13, 35, 3] [0, 1, 2, 3, 4, 5, 6, 7, 8, 9, 10, 11, 12, 13, 14, 15, 16, 17, 18, 19] ?_
                      refine dt (hv := by exact sdFA) ?_
                      refine dt (hv := by exact sdL) ?_
                      iterate 2 (refine dt (hv := by exact O) ?_)
                      refine dgB (fun g82 => ?_) (fun g82 => ?_)
                      · refine dp ?_
                        iterate 3 (refine dp ?_)
                        iterate 10 (refine du ?_)
                        refine dp ?_
                        refine dt (hv := by exact O) ?_
                        refine dn ?_
                        refine cT ?_
                        refine ex ?_
                        refine rg ?_
                        refine st (h := O) ?_
                        refine st (h := sdA) ?_
                        refine st (h := O) ?_
                        refine nl ?_
                        refine bk2 (_) (_) (by exact ⟨rfl, trivial⟩) (by exact ⟨rfl, rfl, rfl, rfl, rfl, rfl, trivial⟩) (by exact ⟨rfl, rfl, rfl, rfl, trivial⟩) ?_ ?_
                        · omega
                        · refine ⟨by omega, by omega, ?_⟩
                          rw [show (((a1 + m : Nat) : Int) + 1 - a1).toNat = m + 1 from by omega, bRow, if_neg (by simp only [okB, Bool.and_eq_true]; exact fun h => not_of g82 h.2.1)]
                          exact hT'
                      · refine dg (hv := by exact O) ?_
                        iterate 3 (refine dg (hv := by exact O) ?_)
                        refine dgD (fun g86 => ?_) (fun g86 => ?_)
                        · have hTn : T' (0 + (((a1 + m : Nat) : Int) + 1).toNat * 8 + 0 + (judD l x a1 (a1 + m)).cls.toNat * 1) = (tabD l x k (a1 + m + 1) (judD l x a1 (a1 + m)).cls.toNat).1 := by
                            rw [hT'.at (i := a1 + m + 1) (c := (judD l x a1 (a1 + m)).cls.toNat) (by omega) (by omega) (by omega)]
                            simp only [setR]
                            rw [if_neg (by omega)]
                          iterate 2 (refine dg (hv := by exact O) ?_)
                          refine dg (hv := by exact sdA) ?_
                          refine dg (hv := by exact sdFA) ?_
                          refine dg (hv := by exact sdL) ?_
                          refine dg (hv := by exact (sdX (z := 8))) ?_
                          refine dg (hv := by exact sdFA) ?_
                          refine dg (hv := by exact (sdXA (z := 1))) ?_
                          refine dg (hv := by exact (by first | exact sdLG | exact sdW)) ?_
                          iterate 2 (refine dg (hv := by exact O) ?_)
                          refine dt (hv := by exact O) ?_
                          refine dn ?_
                          refine cD (fun c5 => ?_) (fun c5 => ?_)
                          · refine ex ?_
                            refine rg ?_
                            refine st (h := O) ?_
                            refine st (h := sdA) ?_
                            refine st (h := O) ?_
                            refine nl ?_
                            refine bk2 (_) (_) (by exact ⟨rfl, trivial⟩) (by exact ⟨rfl, rfl, rfl, rfl, rfl, rfl, trivial⟩) (by exact ⟨rfl, rfl, rfl, rfl, trivial⟩) ?_ ?_
                            · omega
                            · refine ⟨by omega, by omega, ?_⟩
                              rw [show (((a1 + m : Nat) : Int) + 1 - a1).toNat = m + 1 from by omega, bRow, if_neg (by
                                simp only [okB, Bool.and_eq_true, Bool.or_eq_true, Bool.not_eq_true', decide_eq_false_iff_not]
                                rintro ⟨-, -, h | h⟩
                                · omega
                                · exact h (hTn ▸ c5))]
                              exact hT'
                          · have hok : okB l x (tabD l x k) a1 (a1 + m) = true := by
                              simp only [okB, Bool.and_eq_true, Bool.or_eq_true, Bool.not_eq_true', decide_eq_false_iff_not]
                              exact ⟨of_not c4, of_not g82, .inr (fun h => c5 (hTn.trans h))⟩
                            refine sk ?_
                            refine sq ?_
                            refine rg ?_
                            refine st (h := O) ?_
                            refine nl ?_
                            refine bl ?_
                            refine J.loop2 (α := Nat) (β := Nat → Int) (fun c T2 => c ≤ 4 ∧ TB l T2 (setR (tabD l x k) a1 (fun c' => if c' < c then updB l x (tabD l x k) a1 (a1 + m) (bRow l x (tabD l x k) a1 m) c' else bRow l x (tabD l x k) a1 m c'))) (fun c T2 => [(99, .int .i64 c)]) [(3, _), (7, _), (8, _), (9, _), (10, _), (11, _), (12, _), (13, _)] (fun c T2 => [(35, { elem := 69, cs := gI T2 (l.length * 8), room := l.length * 8, flat := true })]) [(13, _), (3, _)] (fun c T2 => 4 - c) (0) (_) (by exact ⟨rfl, trivial⟩) (by exact ⟨rfl, rfl, rfl, rfl, rfl, rfl, rfl, rfl, trivial⟩) (by exact ⟨rfl, rfl, rfl, rfl, rfl, rfl, trivial⟩) ?_ ?_
                            · refine ⟨by omega, ?_⟩
                              exact hT'.cong fun c' hc' => (by rw [if_neg (by omega)])
                            · intro c T2 L1 K1 e1 e2 hI
                              dsimp only [apV, apR, List.cons_append, List.nil_append] at e1 e2
                              subst e1 e2
                              obtain ⟨hc4, hT2⟩ := hI
                              refine sq ?_
                              refine rg ?_
                              refine st (h := O) ?_
                              refine nl ?_
                              refine sq ?_
                              refine cD (fun c6 => ?_) (fun c6 => ?_)
                              · have hc : c < 4 := by omega
                                refine sk ?_
                                refine sq ?_
                                refine bl ?_
                                refine sq ?_
                                refine rg ?_
                                iterate 2 (refine st (h := O) ?_)
                                refine nl ?_
                                refine sq ?_
                                refine rg ?_
                                refine st (h := O) ?_
                                refine st (h := sdLN) ?_
                                iterate 3 (refine st (h := O) ?_)
                                refine st (h := sdLN) ?_
                                refine cl (h := by exact fun ι hV hl => hDm _ (hp.le hl) _ _ _ _ _ _ _ _ _ (by omega) (by omega)) ?_
                                refine st (h := O) ?_
                                refine nl ?_
                                iterate 2 (refine sq ?_)
                                refine rg ?_
                                iterate 3 (refine st (h := O) ?_)
                                refine nl ?_
                                refine cD (fun c7 => ?_) (fun c7 => ?_)
                                · have hTc : T2 (0 + (((a1 + m : Nat) : Int) + 1).toNat * 8 + 4 + (judD l x a1 (a1 + m)).cls.toNat * 1) = (tabD l x k (a1 + m + 1) (judD l x a1 (a1 + m)).cls.toNat).2 := by
                                    rw [hT2.at4 (i := a1 + m + 1) (c := (judD l x a1 (a1 + m)).cls.toNat) (by omega) (by omega) (by omega)]
                                    simp only [setR]
                                    rw [if_neg (by omega)]
                                  have htb := htk (a1 + m + 1) (judD l x a1 (a1 + m)).cls.toNat (by omega)
                                  have htb1 := htb.cl
                                  have htb2 := htb.ch
                                  have hdb := demD_bd l x (judD l x a1 (a1 + m)).bad (judD l x a1 (a1 + m)).cls c ((a1 : Int) - 1) (a1 + m : Nat)
                                  have hcst : demD l x (judD l x a1 (a1 + m)).bad (judD l x a1 (a1 + m)).cls c ((a1 : Int) - 1) (a1 + m : Nat) + T2 (0 + (((a1 + m : Nat) : Int) + 1).toNat * 8 + 4 + (judD l x a1 (a1 + m)).cls.toNat * 1) = cstB l x (tabD l x k) a1 (a1 + m) c := by
                                    rw [hTc]; unfold cstB; rw [if_pos (by omega)]
                                  refine dr 12 [35, 13, 3] [0, 1, 2, 3, 4, 5, 6, 7, 8, 9, 10, 11] ?_
                                  iterate 3 (refine dt (hv := by exact O) ?_)
                                  refine dt (hv := by exact sdA) ?_
                                  refine dt (hv := by exact sdFA) ?_
                                  refine dt (hv := by exact sdL) ?_
                                  refine dt (hv := by exact (sdX (z := 8))) ?_
                                  refine dt (hv := by exact sdFA) ?_
                                  refine dt (hv := by exact (sdXA (z := 1))) ?_
                                  refine dt (hv := by exact (by first | exact sdLG | exact sdW)) ?_
                                  refine dt (hv := by exact sdA) ?_
                                  refine dt (hv := by exact O) ?_
                                  refine dn ?_
                                  refine sq ?_
                                  rw [hcst]
                                  have hA : T2 (0 + ((a1 : Int) - 1 + 1).toNat * 8 + 0 + (c : Int).toNat * 1) = (bRow l x (tabD l x k) a1 m c).1 := by
                                    rw [hT2.at (i := a1) (c := c) (by omega) (by omega) (by omega)]
                                    simp [setR]
                                  have hB : T2 (0 + ((a1 : Int) - 1 + 1).toNat * 8 + 4 + (c : Int).toNat * 1) = (bRow l x (tabD l x k) a1 m c).2 := by
                                    rw [hT2.at4 (i := a1) (c := c) (by omega) (by omega) (by omega)]
                                    simp [setR]
                                  refine rg ?_
                                  iterate 3 (refine st (h := O) ?_)
                                  refine st (h := sdFA) ?_
                                  refine st (h := (sdXA (z := 1))) ?_
                                  refine st (h := (by first | exact sdLG | exact sdW)) ?_
                                  iterate 2 (refine st (h := O) ?_)
                                  refine gD (fun g130 => ?_) (fun g130 => ?_)
                                  · refine sp ?_
                                    iterate 7 (refine sp ?_)
                                    refine st (h := O) ?_
                                    refine nl ?_
                                    refine cT ?_
                                    refine dr 9 [35, 13, 3] [0, 1, 2002, 2003, 4, 2005, 2006, 2007, 8, 2010, 2011, 1009, 2012, 1013] ?_
                                    iterate 2 (refine dt (hv := by exact O) ?_)
                                    iterate 2 (refine dq (hv := by exact fun _ _ => O) ?_)
                                    refine dt (hv := by exact O) ?_
                                    iterate 2 (refine dq (hv := by exact fun _ _ => O) ?_)
                                    refine dq (hv := by exact fun _ _ => sdFA) ?_
                                    refine dt (hv := by exact (sdXA (z := 1))) ?_
                                    refine dq (hv := by exact fun _ _ => O) ?_
                                    refine dq (hv := by exact fun _ _ => sdFA) ?_
                                    first | refine dsoG ?_ | refine dso ?_
                                    refine dq (hv := by exact fun _ _ => (sdXA (z := 1))) ?_
                                    first | refine dsoG ?_ | refine dso ?_
                                    refine dn ?_
                                    refine bk ?_
                                    refine rg ?_
                                    refine st (h := sdA) ?_
                                    refine st (h := O) ?_
                                    refine nl ?_
                                    refine bk2 (c + 1) (_) (by exact ⟨rfl, trivial⟩) (by exact ⟨rfl, rfl, rfl, rfl, rfl, rfl, rfl, rfl, trivial⟩) (by exact ⟨rfl, rfl, rfl, rfl, rfl, rfl, trivial⟩) ?_ ?_
                                    · omega
                                    · refine ⟨by omega, ?_⟩
                                      have hu : updB l x (tabD l x k) a1 (a1 + m) (bRow l x (tabD l x k) a1 m) c = (((a1 + m : Nat) : Int), cstB l x (tabD l x k) a1 (a1 + m) c) := by unfold updB; rw [if_pos (.inl (hA ▸ g130))]
                                      refine hT2.upd hc (by omega) (by omega) ?_ (fun c' h1 h2 => ?_)
                                      · rw [if_pos (by omega), hu]
                                      · by_cases h : c' < c
                                        · rw [if_pos (by omega), if_pos h]
                                        · rw [if_neg (by omega), if_neg h]
                                  · refine sg (h := O) ?_
                                    iterate 3 (refine sg (h := O) ?_)
                                    refine sg (h := sdFA) ?_
                                    refine sg (h := (sdXA (z := 1))) ?_
                                    refine sg (h := (by first | exact sdLG | exact sdW)) ?_
                                    refine sg (h := O) ?_
                                    refine st (h := O) ?_
                                    refine nl ?_
                                    refine cD (fun c8 => ?_) (fun c8 => ?_)
                                    · refine dr 9 [35, 13, 3] [0, 1, 2002, 2003, 4, 2005, 2006, 2007, 8, 2010, 2011, 1009, 2012, 1013] ?_
                                      iterate 2 (refine dt (hv := by exact O) ?_)
                                      iterate 2 (refine dq (hv := by exact fun _ _ => O) ?_)
                                      refine dt (hv := by exact O) ?_
                                      iterate 2 (refine dq (hv := by exact fun _ _ => O) ?_)
                                      refine dq (hv := by exact fun _ _ => sdFA) ?_
                                      refine dt (hv := by exact (sdXA (z := 1))) ?_
                                      refine dq (hv := by exact fun _ _ => O) ?_
                                      refine dq (hv := by exact fun _ _ => sdFA) ?_
                                      first | refine dsoG ?_ | refine dso ?_
                                      refine dq (hv := by exact fun _ _ => (sdXA (z := 1))) ?_
                                      first | refine dsoG ?_ | refine dso ?_
                                      refine dn ?_
                                      refine bk ?_
                                      refine rg ?_
                                      refine st (h := sdA) ?_
                                      refine st (h := O) ?_
                                      refine nl ?_
                                      refine bk2 (c + 1) (_) (by exact ⟨rfl, trivial⟩) (by exact ⟨rfl, rfl, rfl, rfl, rfl, rfl, rfl, rfl, trivial⟩) (by exact ⟨rfl, rfl, rfl, rfl, rfl, rfl, trivial⟩) ?_ ?_
                                      · omega
                                      · refine ⟨by omega, ?_⟩
                                        have hu : updB l x (tabD l x k) a1 (a1 + m) (bRow l x (tabD l x k) a1 m) c = (((a1 + m : Nat) : Int), cstB l x (tabD l x k) a1 (a1 + m) c) := by unfold updB; rw [if_pos (.inr (hB ▸ c8))]
                                        refine hT2.upd hc (by omega) (by omega) ?_ (fun c' h1 h2 => ?_)
                                        · rw [if_pos (by omega), hu]
                                        · by_cases h : c' < c
                                          · rw [if_pos (by omega), if_pos h]
                                          · rw [if_neg (by omega), if_neg h]
                                    · refine sk ?_
                                      refine bk ?_
                                      refine rg ?_
                                      refine st (h := sdA) ?_
                                      refine st (h := O) ?_
                                      refine nl ?_
                                      refine bk2 (c + 1) (_) (by exact ⟨rfl, trivial⟩) (by exact ⟨rfl, rfl, rfl, rfl, rfl, rfl, rfl, rfl, trivial⟩) (by exact ⟨rfl, rfl, rfl, rfl, rfl, rfl, trivial⟩) ?_ ?_
                                      · omega
                                      · refine ⟨by omega, ?_⟩
                                        have hu : updB l x (tabD l x k) a1 (a1 + m) (bRow l x (tabD l x k) a1 m) c = bRow l x (tabD l x k) a1 m c := by
                                          unfold updB
                                          rw [if_neg (by rintro (h | h); · exact g130 (hA.trans h)
                                                         · exact c8 (by rw [hB]; exact h))]
                                        refine hT2.cong fun c' h1 => ?_
                                        by_cases h2 : c' = c
                                        · subst h2; rw [if_pos (by omega), if_neg (by omega), hu]
                                        · by_cases h : c' < c
                                          · rw [if_pos (by omega), if_pos h]
                                          · rw [if_neg (by omega), if_neg h]
                                · have hcst : demD l x (judD l x a1 (a1 + m)).bad (judD l x a1 (a1 + m)).cls c ((a1 : Int) - 1) (a1 + m : Nat) = cstB l x (tabD l x k) a1 (a1 + m) c := by
                                    unfold cstB; rw [if_neg (by omega), Int.add_zero]
                                  refine sk ?_
                                  refine sq ?_
                                  rw [hcst]
                                  have hA : T2 (0 + ((a1 : Int) - 1 + 1).toNat * 8 + 0 + (c : Int).toNat * 1) = (bRow l x (tabD l x k) a1 m c).1 := by
                                    rw [hT2.at (i := a1) (c := c) (by omega) (by omega) (by omega)]
                                    simp [setR]
                                  have hB : T2 (0 + ((a1 : Int) - 1 + 1).toNat * 8 + 4 + (c : Int).toNat * 1) = (bRow l x (tabD l x k) a1 m c).2 := by
                                    rw [hT2.at4 (i := a1) (c := c) (by omega) (by omega) (by omega)]
                                    simp [setR]
                                  refine rg ?_
                                  iterate 3 (refine st (h := O) ?_)
                                  refine st (h := sdFA) ?_
                                  refine st (h := (sdXA (z := 1))) ?_
                                  refine st (h := (by first | exact sdLG | exact sdW)) ?_
                                  iterate 2 (refine st (h := O) ?_)
                                  refine gD (fun g130 => ?_) (fun g130 => ?_)
                                  · refine sp ?_
                                    iterate 7 (refine sp ?_)
                                    refine st (h := O) ?_
                                    refine nl ?_
                                    refine cT ?_
                                    refine dr 9 [35, 13, 3] [0, 1, 2002, 2003, 4, 2005, 2006, 2007, 8, 2010, 2011, 1009, 2012, 1013] ?_
                                    iterate 2 (refine dt (hv := by exact O) ?_)
                                    iterate 2 (refine dq (hv := by exact fun _ _ => O) ?_)
                                    refine dt (hv := by exact O) ?_
                                    iterate 2 (refine dq (hv := by exact fun _ _ => O) ?_)
                                    refine dq (hv := by exact fun _ _ => sdFA) ?_
                                    refine dt (hv := by exact (sdXA (z := 1))) ?_
                                    refine dq (hv := by exact fun _ _ => O) ?_
                                    refine dq (hv := by exact fun _ _ => sdFA) ?_
                                    first | refine dsoG ?_ | refine dso ?_
                                    refine dq (hv := by exact fun _ _ => (sdXA (z := 1))) ?_
                                    first | refine dsoG ?_ | refine dso ?_
                                    refine dn ?_
                                    refine bk ?_
                                    refine rg ?_
                                    refine st (h := sdA) ?_
                                    refine st (h := O) ?_
                                    refine nl ?_
                                    refine bk2 (c + 1) (_) (by exact ⟨rfl, trivial⟩) (by exact ⟨rfl, rfl, rfl, rfl, rfl, rfl, rfl, rfl, trivial⟩) (by exact ⟨rfl, rfl, rfl, rfl, rfl, rfl, trivial⟩) ?_ ?_
                                    · omega
                                    · refine ⟨by omega, ?_⟩
                                      have hu : updB l x (tabD l x k) a1 (a1 + m) (bRow l x (tabD l x k) a1 m) c = (((a1 + m : Nat) : Int), cstB l x (tabD l x k) a1 (a1 + m) c) := by unfold updB; rw [if_pos (.inl (hA ▸ g130))]
                                      refine hT2.upd hc (by omega) (by omega) ?_ (fun c' h1 h2 => ?_)
                                      · rw [if_pos (by omega), hu]
                                      · by_cases h : c' < c
                                        · rw [if_pos (by omega), if_pos h]
                                        · rw [if_neg (by omega), if_neg h]
                                  · refine sg (h := O) ?_
                                    iterate 3 (refine sg (h := O) ?_)
                                    refine sg (h := sdFA) ?_
                                    refine sg (h := (sdXA (z := 1))) ?_
                                    refine sg (h := (by first | exact sdLG | exact sdW)) ?_
                                    refine sg (h := O) ?_
                                    refine st (h := O) ?_
                                    refine nl ?_
                                    refine cD (fun c8 => ?_) (fun c8 => ?_)
                                    · refine dr 9 [35, 13, 3] [0, 1, 2002, 2003, 4, 2005, 2006, 2007, 8, 2010, 2011, 1009, 2012, 1013] ?_
                                      iterate 2 (refine dt (hv := by exact O) ?_)
                                      iterate 2 (refine dq (hv := by exact fun _ _ => O) ?_)
                                      refine dt (hv := by exact O) ?_
                                      iterate 2 (refine dq (hv := by exact fun _ _ => O) ?_)
                                      refine dq (hv := by exact fun _ _ => sdFA) ?_
                                      refine dt (hv := by exact (sdXA (z := 1))) ?_
                                      refine dq (hv := by exact fun _ _ => O) ?_
                                      refine dq (hv := by exact fun _ _ => sdFA) ?_
                                      first | refine dsoG ?_ | refine dso ?_
                                      refine dq (hv := by exact fun _ _ => (sdXA (z := 1))) ?_
                                      first | refine dsoG ?_ | refine dso ?_
                                      refine dn ?_
                                      refine bk ?_
                                      refine rg ?_
                                      refine st (h := sdA) ?_
                                      refine st (h := O) ?_
                                      refine nl ?_
                                      refine bk2 (c + 1) (_) (by exact ⟨rfl, trivial⟩) (by exact ⟨rfl, rfl, rfl, rfl, rfl, rfl, rfl, rfl, trivial⟩) (by exact ⟨rfl, rfl, rfl, rfl, rfl, rfl, trivial⟩) ?_ ?_
                                      · omega
                                      · refine ⟨by omega, ?_⟩
                                        have hu : updB l x (tabD l x k) a1 (a1 + m) (bRow l x (tabD l x k) a1 m) c = (((a1 + m : Nat) : Int), cstB l x (tabD l x k) a1 (a1 + m) c) := by unfold updB; rw [if_pos (.inr (hB ▸ c8))]
                                        refine hT2.upd hc (by omega) (by omega) ?_ (fun c' h1 h2 => ?_)
                                        · rw [if_pos (by omega), hu]
                                        · by_cases h : c' < c
                                          · rw [if_pos (by omega), if_pos h]
                                          · rw [if_neg (by omega), if_neg h]
                                    · refine sk ?_
                                      refine bk ?_
                                      refine rg ?_
                                      refine st (h := sdA) ?_
                                      refine st (h := O) ?_
                                      refine nl ?_
                                      refine bk2 (c + 1) (_) (by exact ⟨rfl, trivial⟩) (by exact ⟨rfl, rfl, rfl, rfl, rfl, rfl, rfl, rfl, trivial⟩) (by exact ⟨rfl, rfl, rfl, rfl, rfl, rfl, trivial⟩) ?_ ?_
                                      · omega
                                      · refine ⟨by omega, ?_⟩
                                        have hu : updB l x (tabD l x k) a1 (a1 + m) (bRow l x (tabD l x k) a1 m) c = bRow l x (tabD l x k) a1 m c := by
                                          unfold updB
                                          rw [if_neg (by rintro (h | h); · exact g130 (hA.trans h)
                                                         · exact c8 (by rw [hB]; exact h))]
                                        refine hT2.cong fun c' h1 => ?_
                                        by_cases h2 : c' = c
                                        · subst h2; rw [if_pos (by omega), if_neg (by omega), hu]
                                        · by_cases h : c' < c
                                          · rw [if_pos (by omega), if_pos h]
                                          · rw [if_neg (by omega), if_neg h]
                              · refine ex ?_
                                refine bk ?_
                                refine rg ?_
                                refine st (h := O) ?_
                                refine st (h := sdA) ?_
                                refine st (h := O) ?_
                                refine nl ?_
                                refine bk2 (_) (_) (by exact ⟨rfl, trivial⟩) (by exact ⟨rfl, rfl, rfl, rfl, rfl, rfl, trivial⟩) (by exact ⟨rfl, rfl, rfl, rfl, trivial⟩) ?_ ?_
                                · omega
                                · obtain rfl : c = 4 := by omega
                                  refine ⟨by omega, by omega, ?_⟩
                                  rw [show (((a1 + m : Nat) : Int) + 1 - a1).toNat = m + 1 from by omega, bRow, if_pos hok]
                                  exact hT2.cong fun c' hc' => (by rw [if_pos hc'])
                        · have hok : okB l x (tabD l x k) a1 (a1 + m) = true := by
                            simp only [okB, Bool.and_eq_true, Bool.or_eq_true, Bool.not_eq_true', decide_eq_false_iff_not]
                            exact ⟨of_not c4, of_not g82, .inl (by omega)⟩
                          iterate 10 (refine dp ?_)
                          refine dg (hv := by exact O) ?_
                          refine dt (hv := by exact O) ?_
                          refine dn ?_
                          refine cF ?_
                          refine sk ?_
                          refine sq ?_
                          refine rg ?_
                          refine st (h := O) ?_
                          refine nl ?_
                          refine bl ?_
                          refine J.loop2 (α := Nat) (β := Nat → Int) (fun c T2 => c ≤ 4 ∧ TB l T2 (setR (tabD l x k) a1 (fun c' => if c' < c then updB l x (tabD l x k) a1 (a1 + m) (bRow l x (tabD l x k) a1 m) c' else bRow l x (tabD l x k) a1 m c'))) (fun c T2 => [(99, .int .i64 c)]) [(3, _), (7, _), (8, _), (9, _), (10, _), (11, _), (12, _), (13, _)] (fun c T2 => [(35, { elem := 69, cs := gI T2 (l.length * 8), room := l.length * 8, flat := true })]) [(13, _), (3, _)] (fun c T2 => 4 - c) (0) (_) (by exact ⟨rfl, trivial⟩) (by exact ⟨rfl, rfl, rfl, rfl, rfl, rfl, rfl, rfl, trivial⟩) (by exact ⟨rfl, rfl, rfl, rfl, rfl, rfl, trivial⟩) ?_ ?_
                          · refine ⟨by omega, ?_⟩
                            exact hT'.cong fun c' hc' => (by rw [if_neg (by omega)])
                          · intro c T2 L1 K1 e1 e2 hI
                            dsimp only [apV, apR, List.cons_append, List.nil_append] at e1 e2
                            subst e1 e2
                            obtain ⟨hc4, hT2⟩ := hI
                            refine sq ?_
                            refine rg ?_
                            refine st (h := O) ?_
                            refine nl ?_
                            refine sq ?_
                            refine cD (fun c6 => ?_) (fun c6 => ?_)
                            · have hc : c < 4 := by omega
                              refine sk ?_
                              refine sq ?_
                              refine bl ?_
                              refine sq ?_
                              refine rg ?_
                              iterate 2 (refine st (h := O) ?_)
                              refine nl ?_
                              refine sq ?_
                              refine rg ?_
                              refine st (h := O) ?_
                              refine st (h := sdLN) ?_
                              iterate 3 (refine st (h := O) ?_)
                              refine st (h := sdLN) ?_
                              refine cl (h := by exact fun ι hV hl => hDm _ (hp.le hl) _ _ _ _ _ _ _ _ _ (by omega) (by omega)) ?_
                              refine st (h := O) ?_
                              refine nl ?_
                              iterate 2 (refine sq ?_)
                              refine rg ?_
                              iterate 3 (refine st (h := O) ?_)
                              refine nl ?_
                              refine cD (fun c7 => ?_) (fun c7 => ?_)
                              · have hTc : T2 (0 + (((a1 + m : Nat) : Int) + 1).toNat * 8 + 4 + (judD l x a1 (a1 + m)).cls.toNat * 1) = (tabD l x k (a1 + m + 1) (judD l x a1 (a1 + m)).cls.toNat).2 := by
                                  rw [hT2.at4 (i := a1 + m + 1) (c := (judD l x a1 (a1 + m)).cls.toNat) (by omega) (by omega) (by omega)]
                                  simp only [setR]
                                  rw [if_neg (by omega)]
                                have htb := htk (a1 + m + 1) (judD l x a1 (a1 + m)).cls.toNat (by omega)
                                have htb1 := htb.cl
                                have htb2 := htb.ch
                                have hdb := demD_bd l x (judD l x a1 (a1 + m)).bad (judD l x a1 (a1 + m)).cls c ((a1 : Int) - 1) (a1 + m : Nat)
                                have hcst : demD l x (judD l x a1 (a1 + m)).bad (judD l x a1 (a1 + m)).cls c ((a1 : Int) - 1) (a1 + m : Nat) + T2 (0 + (((a1 + m : Nat) : Int) + 1).toNat * 8 + 4 + (judD l x a1 (a1 + m)).cls.toNat * 1) = cstB l x (tabD l x k) a1 (a1 + m) c := by
                                  rw [hTc]; unfold cstB; rw [if_pos (by omega)]
                                refine dr 12 [35, 13, 3] [0, 1, 2, 3, 4, 5, 6, 7, 8, 9, 10, 11] ?_
                                iterate 3 (refine dt (hv := by exact O) ?_)
                                refine dt (hv := by exact sdA) ?_
                                refine dt (hv := by exact sdFA) ?_
                                refine dt (hv := by exact sdL) ?_
                                refine dt (hv := by exact (sdX (z := 8))) ?_
                                refine dt (hv := by exact sdFA) ?_
                                refine dt (hv := by exact (sdXA (z := 1))) ?_
                                refine dt (hv := by exact (by first | exact sdLG | exact sdW)) ?_
                                refine dt (hv := by exact sdA) ?_
                                refine dt (hv := by exact O) ?_
                                refine dn ?_
                                refine sq ?_
                                rw [hcst]
                                have hA : T2 (0 + ((a1 : Int) - 1 + 1).toNat * 8 + 0 + (c : Int).toNat * 1) = (bRow l x (tabD l x k) a1 m c).1 := by
                                  rw [hT2.at (i := a1) (c := c) (by omega) (by omega) (by omega)]
                                  simp [setR]
                                have hB : T2 (0 + ((a1 : Int) - 1 + 1).toNat * 8 + 4 + (c : Int).toNat * 1) = (bRow l x (tabD l x k) a1 m c).2 := by
                                  rw [hT2.at4 (i := a1) (c := c) (by omega) (by omega) (by omega)]
                                  simp [setR]
                                refine rg ?_
                                iterate 3 (refine st (h := O) ?_)
                                refine st (h := sdFA) ?_
                                refine st (h := (sdXA (z := 1))) ?_
                                refine st (h := (by first | exact sdLG | exact sdW)) ?_
                                iterate 2 (refine st (h := O) ?_)
                                refine gD (fun g130 => ?_) (fun g130 => ?_)
                                · refine sp ?_
                                  iterate 7 (refine sp ?_)
                                  refine st (h := O) ?_
                                  refine nl ?_
                                  refine cT ?_
                                  refine dr 9 [35, 13, 3] [0, 1, 2002, 2003, 4, 2005, 2006, 2007, 8, 2010, 2011, 1009, 2012, 1013] ?_
                                  iterate 2 (refine dt (hv := by exact O) ?_)
                                  iterate 2 (refine dq (hv := by exact fun _ _ => O) ?_)
                                  refine dt (hv := by exact O) ?_
                                  iterate 2 (refine dq (hv := by exact fun _ _ => O) ?_)
                                  refine dq (hv := by exact fun _ _ => sdFA) ?_
                                  refine dt (hv := by exact (sdXA (z := 1))) ?_
                                  refine dq (hv := by exact fun _ _ => O) ?_
                                  refine dq (hv := by exact fun _ _ => sdFA) ?_
                                  first | refine dsoG ?_ | refine dso ?_
                                  refine dq (hv := by exact fun _ _ => (sdXA (z := 1))) ?_
                                  first | refine dsoG ?_ | refine dso ?_
                                  refine dn ?_
                                  refine bk ?_
                                  refine rg ?_
                                  refine st (h := sdA) ?_
                                  refine st (h := O) ?_
                                  refine nl ?_
                                  refine bk2 (c + 1) (_) (by exact ⟨rfl, trivial⟩) (by exact ⟨rfl, rfl, rfl, rfl, rfl, rfl, rfl, rfl, trivial⟩) (by exact ⟨rfl, rfl, rfl, rfl, rfl, rfl, trivial⟩) ?_ ?_
                                  · omega
                                  · refine ⟨by omega, ?_⟩
                                    have hu : updB l x (tabD l x k) a1 (a1 + m) (bRow l x (tabD l x k) a1 m) c = (((a1 + m : Nat) : Int), cstB l x (tabD l x k) a1 (a1 + m) c) := by unfold updB; rw [if_pos (.inl (hA ▸ g130))]
                                    refine hT2.upd hc (by omega) (by omega) ?_ (fun c' h1 h2 => ?_)
                                    · rw [if_pos (by omega), hu]
                                    · by_cases h : c' < c
                                      · rw [if_pos (by omega), if_pos h]
                                      · rw [if_neg (by omega), if_neg h]
                                · refine sg (h := O) ?_
                                  iterate 3 (refine sg (h := O) ?_)
                                  refine sg (h := sdFA) ?_
                                  refine sg (h := (sdXA (z := 1))) ?_
                                  refine sg (h := (by first | exact sdLG | exact sdW)) ?_
                                  refine sg (h := O) ?_
                                  refine st (h := O) ?_
                                  refine nl ?_
                                  refine cD (fun c8 => ?_) (fun c8 => ?_)
                                  · refine dr 9 [35, 13, 3] [0, 1, 2002, 2003, 4, 2005, 2006, 2007, 8, 2010, 2011, 1009, 2012, 1013] ?_
                                    iterate 2 (refine dt (hv := by exact O) ?_)
                                    iterate 2 (refine dq (hv := by exact fun _ _ => O) ?_)
                                    refine dt (hv := by exact O) ?_
                                    iterate 2 (refine dq (hv := by exact fun _ _ => O) ?_)
                                    refine dq (hv := by exact fun _ _ => sdFA) ?_
                                    refine dt (hv := by exact (sdXA (z := 1))) ?_
                                    refine dq (hv := by exact fun _ _ => O) ?_
                                    refine dq (hv := by exact fun _ _ => sdFA) ?_
                                    first | refine dsoG ?_ | refine dso ?_
                                    refine dq (hv := by exact fun _ _ => (sdXA (z := 1))) ?_
                                    first | refine dsoG ?_ | refine dso ?_
                                    refine dn ?_
                                    refine bk ?_
                                    refine rg ?_
                                    refine st (h := sdA) ?_
                                    refine st (h := O) ?_
                                    refine nl ?_
                                    refine bk2 (c + 1) (_) (by exact ⟨rfl, trivial⟩) (by exact ⟨rfl, rfl, rfl, rfl, rfl, rfl, rfl, rfl, trivial⟩) (by exact ⟨rfl, rfl, rfl, rfl, rfl, rfl, trivial⟩) ?_ ?_
                                    · omega
                                    · refine ⟨by omega, ?_⟩
                                      have hu : updB l x (tabD l x k) a1 (a1 + m) (bRow l x (tabD l x k) a1 m) c = (((a1 + m : Nat) : Int), cstB l x (tabD l x k) a1 (a1 + m) c) := by unfold updB; rw [if_pos (.inr (hB ▸ c8))]
                                      refine hT2.upd hc (by omega) (by omega) ?_ (fun c' h1 h2 => ?_)
                                      · rw [if_pos (by omega), hu]
                                      · by_cases h : c' < c
                                        · rw [if_pos (by omega), if_pos h]
                                        · rw [if_neg (by omega), if_neg h]
                                  · refine sk ?_
                                    refine bk ?_
                                    refine rg ?_
                                    refine st (h := sdA) ?_
                                    refine st (h := O) ?_
                                    refine nl ?_
                                    refine bk2 (c + 1) (_) (by exact ⟨rfl, trivial⟩) (by exact ⟨rfl, rfl, rfl, rfl, rfl, rfl, rfl, rfl, trivial⟩) (by exact ⟨rfl, rfl, rfl, rfl, rfl, rfl, trivial⟩) ?_ ?_
                                    · omega
                                    · refine ⟨by omega, ?_⟩
                                      have hu : updB l x (tabD l x k) a1 (a1 + m) (bRow l x (tabD l x k) a1 m) c = bRow l x (tabD l x k) a1 m c := by
                                        unfold updB
                                        rw [if_neg (by rintro (h | h); · exact g130 (hA.trans h)
                                                       · exact c8 (by rw [hB]; exact h))]
                                      refine hT2.cong fun c' h1 => ?_
                                      by_cases h2 : c' = c
                                      · subst h2; rw [if_pos (by omega), if_neg (by omega), hu]
                                      · by_cases h : c' < c
                                        · rw [if_pos (by omega), if_pos h]
                                        · rw [if_neg (by omega), if_neg h]
                              · have hcst : demD l x (judD l x a1 (a1 + m)).bad (judD l x a1 (a1 + m)).cls c ((a1 : Int) - 1) (a1 + m : Nat) = cstB l x (tabD l x k) a1 (a1 + m) c := by
                                  unfold cstB; rw [if_neg (by omega), Int.add_zero]
                                refine sk ?_
                                refine sq ?_
                                rw [hcst]
                                have hA : T2 (0 + ((a1 : Int) - 1 + 1).toNat * 8 + 0 + (c : Int).toNat * 1) = (bRow l x (tabD l x k) a1 m c).1 := by
                                  rw [hT2.at (i := a1) (c := c) (by omega) (by omega) (by omega)]
                                  simp [setR]
                                have hB : T2 (0 + ((a1 : Int) - 1 + 1).toNat * 8 + 4 + (c : Int).toNat * 1) = (bRow l x (tabD l x k) a1 m c).2 := by
                                  rw [hT2.at4 (i := a1) (c := c) (by omega) (by omega) (by omega)]
                                  simp [setR]
                                refine rg ?_
                                iterate 3 (refine st (h := O) ?_)
                                refine st (h := sdFA) ?_
                                refine st (h := (sdXA (z := 1))) ?_
                                refine st (h := (by first | exact sdLG | exact sdW)) ?_
                                iterate 2 (refine st (h := O) ?_)
                                refine gD (fun g130 => ?_) (fun g130 => ?_)
                                · refine sp ?_
                                  iterate 7 (refine sp ?_)
                                  refine st (h := O) ?_
                                  refine nl ?_
                                  refine cT ?_
                                  refine dr 9 [35, 13, 3] [0, 1, 2002, 2003, 4, 2005, 2006, 2007, 8, 2010, 2011, 1009, 2012, 1013] ?_
                                  iterate 2 (refine dt (hv := by exact O) ?_)
                                  iterate 2 (refine dq (hv := by exact fun _ _ => O) ?_)
                                  refine dt (hv := by exact O) ?_
                                  iterate 2 (refine dq (hv := by exact fun _ _ => O) ?_)
                                  refine dq (hv := by exact fun _ _ => sdFA) ?_
                                  refine dt (hv := by exact (sdXA (z := 1))) ?_
                                  refine dq (hv := by exact fun _ _ => O) ?_
                                  refine dq (hv := by exact fun _ _ => sdFA) ?_
                                  first | refine dsoG ?_ | refine dso ?_
                                  refine dq (hv := by exact fun _ _ => (sdXA (z := 1))) ?_
                                  first | refine dsoG ?_ | refine dso ?_
                                  refine dn ?_
                                  refine bk ?_
                                  refine rg ?_
                                  refine st (h := sdA) ?_
                                  refine st (h := O) ?_
                                  refine nl ?_
                                  refine bk2 (c + 1) (_) (by exact ⟨rfl, trivial⟩) (by exact ⟨rfl, rfl, rfl, rfl, rfl, rfl, rfl, rfl, trivial⟩) (by exact ⟨rfl, rfl, rfl, rfl, rfl, rfl, trivial⟩) ?_ ?_
                                  · omega
                                  · refine ⟨by omega, ?_⟩
                                    have hu : updB l x (tabD l x k) a1 (a1 + m) (bRow l x (tabD l x k) a1 m) c = (((a1 + m : Nat) : Int), cstB l x (tabD l x k) a1 (a1 + m) c) := by unfold updB; rw [if_pos (.inl (hA ▸ g130))]
                                    refine hT2.upd hc (by omega) (by omega) ?_ (fun c' h1 h2 => ?_)
                                    · rw [if_pos (by omega), hu]
                                    · by_cases h : c' < c
                                      · rw [if_pos (by omega), if_pos h]
                                      · rw [if_neg (by omega), if_neg h]
                                · refine sg (h := O) ?_
                                  iterate 3 (refine sg (h := O) ?_)
                                  refine sg (h := sdFA) ?_
                                  refine sg (h := (sdXA (z := 1))) ?_
                                  refine sg (h := (by first | exact sdLG | exact sdW)) ?_
                                  refine sg (h := O) ?_
                                  refine st (h := O) ?_
                                  refine nl ?_
                                  refine cD (fun c8 => ?_) (fun c8 => ?_)
                                  · refine dr 9 [35, 13, 3] [0, 1, 2002, 2003, 4, 2005, 2006, 2007, 8, 2010, 2011, 1009, 2012, 1013] ?_
                                    iterate 2 (refine dt (hv := by exact O) ?_)
                                    iterate 2 (refine dq (hv := by exact fun _ _ => O) ?_)
                                    refine dt (hv := by exact O) ?_
                                    iterate 2 (refine dq (hv := by exact fun _ _ => O) ?_)
                                    refine dq (hv := by exact fun _ _ => sdFA) ?_
                                    refine dt (hv := by exact (sdXA (z := 1))) ?_
                                    refine dq (hv := by exact fun _ _ => O) ?_
                                    refine dq (hv := by exact fun _ _ => sdFA) ?_
                                    first | refine dsoG ?_ | refine dso ?_
                                    refine dq (hv := by exact fun _ _ => (sdXA (z := 1))) ?_
                                    first | refine dsoG ?_ | refine dso ?_
                                    refine dn ?_
                                    refine bk ?_
                                    refine rg ?_
                                    refine st (h := sdA) ?_
                                    refine st (h := O) ?_
                                    refine nl ?_
                                    refine bk2 (c + 1) (_) (by exact ⟨rfl, trivial⟩) (by exact ⟨rfl, rfl, rfl, rfl, rfl, rfl, rfl, rfl, trivial⟩) (by exact ⟨rfl, rfl, rfl, rfl, rfl, rfl, trivial⟩) ?_ ?_
                                    · omega
                                    · refine ⟨by omega, ?_⟩
                                      have hu : updB l x (tabD l x k) a1 (a1 + m) (bRow l x (tabD l x k) a1 m) c = (((a1 + m : Nat) : Int), cstB l x (tabD l x k) a1 (a1 + m) c) := by unfold updB; rw [if_pos (.inr (hB ▸ c8))]
                                      refine hT2.upd hc (by omega) (by omega) ?_ (fun c' h1 h2 => ?_)
                                      · rw [if_pos (by omega), hu]
                                      · by_cases h : c' < c
                                        · rw [if_pos (by omega), if_pos h]
                                        · rw [if_neg (by omega), if_neg h]
                                  · refine sk ?_
                                    refine bk ?_
                                    refine rg ?_
                                    refine st (h := sdA) ?_
                                    refine st (h := O) ?_
                                    refine nl ?_
                                    refine bk2 (c + 1) (_) (by exact ⟨rfl, trivial⟩) (by exact ⟨rfl, rfl, rfl, rfl, rfl, rfl, rfl, rfl, trivial⟩) (by exact ⟨rfl, rfl, rfl, rfl, rfl, rfl, trivial⟩) ?_ ?_
                                    · omega
                                    · refine ⟨by omega, ?_⟩
                                      have hu : updB l x (tabD l x k) a1 (a1 + m) (bRow l x (tabD l x k) a1 m) c = bRow l x (tabD l x k) a1 m c := by
                                        unfold updB
                                        rw [if_neg (by rintro (h | h); · exact g130 (hA.trans h)
                                                       · exact c8 (by rw [hB]; exact h))]
                                      refine hT2.cong fun c' h1 => ?_
                                      by_cases h2 : c' = c
                                      · subst h2; rw [if_pos (by omega), if_neg (by omega), hu]
                                      · by_cases h : c' < c
                                        · rw [if_pos (by omega), if_pos h]
                                        · rw [if_neg (by omega), if_neg h]
                            · refine ex ?_
                              refine bk ?_
                              refine rg ?_
                              refine st (h := O) ?_
                              refine st (h := sdA) ?_
                              refine st (h := O) ?_
                              refine nl ?_
                              refine bk2 (_) (_) (by exact ⟨rfl, trivial⟩) (by exact ⟨rfl, rfl, rfl, rfl, rfl, rfl, trivial⟩) (by exact ⟨rfl, rfl, rfl, rfl, trivial⟩) ?_ ?_
                              · omega
                              · obtain rfl : c = 4 := by omega
                                refine ⟨by omega, by omega, ?_⟩
                                rw [show (((a1 + m : Nat) : Int) + 1 - a1).toNat = m + 1 from by omega, bRow, if_pos hok]
                                exact hT2.cong fun c' hc' => (by rw [if_pos hc'])
                  · refine ex ?_
                    refine bk ?_
                    refine rg ?_
                    refine st (h := O) ?_
                    refine st (h := sdS) ?_
                    refine st (h := O) ?_
                    refine nl ?_
                    refine bk3 (_) (k + 1) (_) (by exact ⟨rfl, trivial⟩) (by exact ⟨rfl, rfl, rfl, rfl, trivial⟩) (by exact ⟨rfl, rfl, rfl, rfl, trivial⟩) ?_ ?_
                    · omega
                    · have hlt : a1 = 0 ∨ legalB l ((a1 : Int) - 1) = true := by first | exact .inr (of_not c2) | exact .inl (by omega)
                      refine ⟨by omega, by omega, ?_⟩
                      rw [hrow hlt]
                      obtain rfl : b = foA l a1 + 1 := by omega
                      rwa [show ((foA l a1 : Int) + 1 - a1).toNat = foA l a1 + 1 - a1 from by omega] at hT'
            · refine sp ?_
              iterate 3 (refine sp ?_)
              refine st (h := O) ?_
              refine nl ?_
              refine cF ?_
              refine sk ?_
              refine sq ?_
              refine rg ?_
              iterate 2 (refine st (h := O) ?_)
              refine st (h := sdA) ?_
              refine st (h := (sdX (z := 8))) ?_
              refine st (h := O) ?_
              refine nl ?_
              refine sq ?_
              refine lb ?_
              refine sq ?_
              refine rg ?_
              refine st (h := O) ?_
              refine st (h := sdA) ?_
              refine st (h := O) ?_
              refine nl ?_
              refine bl ?_
              refine J.loop2 (α := Int) (β := Nat → Int) (fun b T' => (a1 : Int) ≤ b ∧ b ≤ foA l a1 + 1 ∧ TB l T' (setR (tabD l x k) a1 (bRow l x (tabD l x k) a1 (b - a1).toNat))) (fun b T' => [(12, .int .i64 b)]) [(3, _), (7, _), (8, _), (9, _), (10, _), (11, _)] (fun b T' => [(35, { elem := 69, cs := gI T' (l.length * 8), room := l.length * 8, flat := true })]) [(3, _)] (fun b T' => (foA l a1 + 1 - b).toNat) (_) (_) (by exact ⟨rfl, trivial⟩) (by exact ⟨rfl, rfl, rfl, rfl, rfl, rfl, trivial⟩) (by exact ⟨rfl, rfl, rfl, rfl, trivial⟩) ?_ ?_
              · refine ⟨by omega, by omega, ?_⟩
                rw [show ((a1 : Int) - 1 + 1 - a1).toNat = 0 from by omega, setR_id (by rw [tabD_none (by omega)]; rfl)]
                exact hTb
              · intro b T' L1 K1 e1 e2 hI
                dsimp only [apV, apR, List.cons_append, List.nil_append] at e1 e2
                subst e1 e2
                obtain ⟨hb0, hb1, hT'⟩ := hI
                iterate 2 (refine sq ?_)
                refine rg ?_
                iterate 3 (refine st (h := O) ?_)
                refine st (h := sdFA) ?_
                refine st (h := sdL) ?_
                refine st (h := O) ?_
                refine st (h := sdA) ?_
                refine st (h := (sdX (z := 1))) ?_
                refine st (h := (by first | exact sdLG | exact sdW)) ?_
                iterate 3 (refine st (h := O) ?_)
                refine nl ?_
                refine cD (fun c3 => ?_) (fun c3 => ?_)
                · rw [hmin] at c3
                  obtain ⟨b1, rfl⟩ := Int.eq_ofNat_of_zero_le (show (0 : Int) ≤ b by omega)
                  obtain ⟨m, rfl⟩ : ∃ m, b1 = a1 + m := ⟨b1 - a1, by omega⟩
                  rw [show ((a1 + m : Nat) : Int) - a1 = m from by omega, Int.toNat_natCast] at hT'
                  have hbl : a1 + m < l.length := by omega
                  have hj := judD_cls l x a1 (a1 + m)
                  refine sk ?_
                  refine sq ?_
                  refine bl ?_
                  iterate 2 (refine sq ?_)
                  refine rg ?_
                  iterate 2 (refine st (h := O) ?_)
                  refine cl (h := by exact fun ι hV hl => legal_C _ _ l _ (hp.le hl).head) ?_
                  refine st (h := O) ?_
                  refine nl ?_
                  refine cB (fun c4 => ?_) (fun c4 => ?_)
                  · refine ex ?_
                    refine rg ?_
                    refine st (h := O) ?_
                    refine st (h := sdA) ?_
                    refine st (h := O) ?_
                    refine nl ?_
                    refine bk2 (_) (_) (by exact ⟨rfl, trivial⟩) (by exact ⟨rfl, rfl, rfl, rfl, rfl, rfl, trivial⟩) (by exact ⟨rfl, rfl, rfl, rfl, trivial⟩) ?_ ?_
                    · omega
                    · refine ⟨by omega, by omega, ?_⟩
                      rw [show (((a1 + m : Nat) : Int) + 1 - a1).toNat = m + 1 from by omega, bRow, if_neg (by simp only [okB, Bool.and_eq_true]; exact fun h => not_of c4 h.1)]
                      exact hT'
                  · refine sk ?_
                    refine sq ?_
                    refine rg ?_
                    iterate 3 (refine st (h := O) ?_)
                    refine st (h := sdLN) ?_
                    refine cl (h := by exact fun ι hV hl => hJ _ (hp.le hl) _ a1 (a1 + m) hgl hgx ha1 (by omega) (by omega)) ?_
                    refine al ?_
                    refine so ?_
                    refine nl ?_
                    iterate 2 (refine sq ?_)
                    refine dr 20 [13, 35, 3] [0, 1, 2, 3, 4, 5, 6, 7, 8, 9, 10, 11, 12, 13, 14, 15, 16, 17, 18, 19] ?_
                    refine dt (hv := by exact sdFA) ?_
                    refine dt (hv := by exact sdL) ?_
                    iterate 2 (refine dt (hv := by exact O) ?_)
                    refine dgB (fun g82 => ?_) (fun g82 => ?_)
                    · refine dp ?_
                      iterate 3 (refine dp ?_)
                      iterate 10 (refine du ?_)
                      refine dp ?_
                      refine dt (hv := by exact O) ?_
                      refine dn ?_
                      refine cT ?_
                      refine ex ?_
                      refine rg ?_
                      refine st (h := O) ?_
                      refine st (h := sdA) ?_
                      refine st (h := O) ?_
                      refine nl ?_
                      refine bk2 (_) (_) (by exact ⟨rfl, trivial⟩) (by exact ⟨rfl, rfl, rfl, rfl, rfl, rfl, trivial⟩) (by exact ⟨rfl, rfl, rfl, rfl, trivial⟩) ?_ ?_
                      · omega
                      · refine ⟨by omega, by omega, ?_⟩
                        rw [show (((a1 + m : Nat) : Int) + 1 - a1).toNat = m + 1 from by omega, bRow, if_neg (by simp only [okB, Bool.and_eq_true]; exact fun h => not_of g82 h.2.1)]
                        exact hT'
                    · refine dg (hv := by exact O) ?_
                      iterate 3 (refine dg (hv := by exact O) ?_)
                      refine dgD (fun g86 => ?_) (fun g86 => ?_)
                      · have hTn : T' (0 + (((a1 + m : Nat) : Int) + 1).toNat * 8 + 0 + (judD l x a1 (a1 + m)).cls.toNat * 1) = (tabD l x k (a1 + m + 1) (judD l x a1 (a1 + m)).cls.toNat).1 := by
                          rw [hT'.at (i := a1 + m + 1) (c := (judD l x a1 (a1 + m)).cls.toNat) (by omega) (by omega) (by omega)]
                          simp only [setR]
                          rw [if_neg (by omega)]
                        iterate 2 (refine dg (hv := by exact O) ?_)
                        refine dg (hv := by exact sdA) ?_
                        refine dg (hv := by exact sdFA) ?_
                        refine dg (hv := by exact sdL) ?_
                        refine dg (hv := by exact (sdX (z := 8))) ?_
                        refine dg (hv := by exact sdFA) ?_
                        refine dg (hv := by exact (sdXA (z := 1))) ?_
                        refine dg (hv := by exact (by first | exact sdLG | exact sdW)) ?_
                        iterate 2 (refine dg (hv := by exact O) ?_)
                        refine dt (hv := by exact O) ?_
                        refine dn ?_
                        refine cD (fun c5 => ?_) (fun c5 => ?_)
                        · refine ex ?_
                          refine rg ?_
                          refine st (h := O) ?_
                          refine st (h := sdA) ?_
                          refine st (h := O) ?_
                          refine nl ?_
                          refine bk2 (_) (_) (by exact ⟨rfl, trivial⟩) (by exact ⟨rfl, rfl, rfl, rfl, rfl, rfl, trivial⟩) (by exact ⟨rfl, rfl, rfl, rfl, trivial⟩) ?_ ?_
                          · omega
                          · refine ⟨by omega, by omega, ?_⟩
                            rw [show (((a1 + m : Nat) : Int) + 1 - a1).toNat = m + 1 from by omega, bRow, if_neg (by
                              simp only [okB, Bool.and_eq_true, Bool.or_eq_true, Bool.not_eq_true', decide_eq_false_iff_not]
                              rintro ⟨-, -, h | h⟩
                              · omega
                              · exact h (hTn ▸ c5))]
                            exact hT'
                        · have hok : okB l x (tabD l x k) a1 (a1 + m) = true := by
                            simp only [okB, Bool.and_eq_true, Bool.or_eq_true, Bool.not_eq_true', decide_eq_false_iff_not]
                            exact ⟨of_not c4, of_not g82, .inr (fun h => c5 (hTn.trans h))⟩
                          refine sk ?_
                          refine sq ?_
                          refine rg ?_
                          refine st (h := O) ?_
                          refine nl ?_
                          refine bl ?_
                          refine J.loop2 (α := Nat) (β := Nat → Int) (fun c T2 => c ≤ 4 ∧ TB l T2 (setR (tabD l x k) a1 (fun c' => if c' < c then updB l x (tabD l x k) a1 (a1 + m) (bRow l x (tabD l x k) a1 m) c' else bRow l x (tabD l x k) a1 m c'))) (fun c T2 => [(99, .int .i64 c)]) [(3, _), (7, _), (8, _), (9, _), (10, _), (11, _), (12, _), (13, _)] (fun c T2 => [(35, { elem := 69, cs := gI T2 (l.length * 8), room := l.length * 8, flat := true })]) [(13, _), (3, _)] (fun c T2 => 4 - c) (0) (_) (by exact ⟨rfl, trivial⟩) (by exact ⟨rfl, rfl, rfl, rfl, rfl, rfl, rfl, rfl, trivial⟩) (by exact ⟨rfl, rfl, rfl, rfl, rfl, rfl, trivial⟩) ?_ ?_
                          · refine ⟨by omega, ?_⟩
                            exact hT'.cong fun c' hc' => (by rw [if_neg (by omega)])
                          · intro c T2 L1 K1 e1 e2 hI
                            dsimp only [apV, apR, List.cons_append, List.nil_append] at e1 e2
                            subst e1 e2
                            obtain ⟨hc4, hT2⟩ := hI
                            refine sq ?_
                            refine rg ?_
                            refine st (h := O) ?_
                            refine nl ?_
                            refine sq ?_
                            refine cD (fun c6 => ?_) (fun c6 => ?_)
                            · have hc : c < 4 := by omega
                              refine sk ?_
                              refine sq ?_
                              refine bl ?_
                              refine sq ?_
                              refine rg ?_
                              iterate 2 (refine st (h := O) ?_)
                              refine nl ?_
                              refine sq ?_
                              refine rg ?_
                              refine st (h := O) ?_
                              refine st (h := sdLN) ?_
                              iterate 3 (refine st (h := O) ?_)
                              refine st (h := sdLN) ?_
                              refine cl (h := by exact fun ι hV hl => hDm _ (hp.le hl) _ _ _ _ _ _ _ _ _ (by omega) (by omega)) ?_
                              refine st (h := O) ?_
                              refine nl ?_
                              iterate 2 (refine sq ?_)
                              refine rg ?_
                              iterate 3 (refine st (h := O) ?_)
                              refine nl ?_
                              refine cD (fun c7 => ?_) (fun c7 => ?_)
                              · have hTc : T2 (0 + (((a1 + m : Nat) : Int) + 1).toNat * 8 + 4 + (judD l x a1 (a1 + m)).cls.toNat * 1) = (tabD l x k (a1 + m + 1) (judD l x a1 (a1 + m)).cls.toNat).2 := by
                                  rw [hT2.at4 (i := a1 + m + 1) (c := (judD l x a1 (a1 + m)).cls.toNat) (by omega) (by omega) (by omega)]
                                  simp only [setR]
                                  rw [if_neg (by omega)]
                                have htb := htk (a1 + m + 1) (judD l x a1 (a1 + m)).cls.toNat (by omega)
                                have htb1 := htb.cl
                                have htb2 := htb.ch
                                have hdb := demD_bd l x (judD l x a1 (a1 + m)).bad (judD l x a1 (a1 + m)).cls c ((a1 : Int) - 1) (a1 + m : Nat)
                                have hcst : demD l x (judD l x a1 (a1 + m)).bad (judD l x a1 (a1 + m)).cls c ((a1 : Int) - 1) (a1 + m : Nat) + T2 (0 + (((a1 + m : Nat) : Int) + 1).toNat * 8 + 4 + (judD l x a1 (a1 + m)).cls.toNat * 1) = cstB l x (tabD l x k) a1 (a1 + m) c := by
                                  rw [hTc]; unfold cstB; rw [if_pos (by omega)]
                                refine dr 12 [35, 13, 3] [0, 1, 2, 3, 4, 5, 6, 7, 8, 9, 10, 11] ?_
                                iterate 3 (refine dt (hv := by exact O) ?_)
                                refine dt (hv := by exact sdA) ?_
                                refine dt (hv := by exact sdFA) ?_
                                refine dt (hv := by exact sdL) ?_
                                refine dt (hv := by exact (sdX (z := 8))) ?_
                                refine dt (hv := by exact sdFA) ?_
                                refine dt (hv := by exact (sdXA (z := 1))) ?_
                                refine dt (hv := by exact (by first | exact sdLG | exact sdW)) ?_
                                refine dt (hv := by exact sdA) ?_
                                refine dt (hv := by exact O) ?_
                                refine dn ?_
                                refine sq ?_
                                rw [hcst]
                                have hA : T2 (0 + ((a1 : Int) - 1 + 1).toNat * 8 + 0 + (c : Int).toNat * 1) = (bRow l x (tabD l x k) a1 m c).1 := by
                                  rw [hT2.at (i := a1) (c := c) (by omega) (by omega) (by omega)]
                                  simp [setR]
                                have hB : T2 (0 + ((a1 : Int) - 1 + 1).toNat * 8 + 4 + (c : Int).toNat * 1) = (bRow l x (tabD l x k) a1 m c).2 := by
                                  rw [hT2.at4 (i := a1) (c := c) (by omega) (by omega) (by omega)]
                                  simp [setR]
                                refine rg ?_
                                iterate 3 (refine st (h := O) ?_)
                                refine st (h := sdFA) ?_
                                refine st (h := (sdXA (z := 1))) ?_
                                refine st (h := (by first | exact sdLG | exact sdW)) ?_
                                iterate 2 (refine st (h := O) ?_)
                                refine gD (fun g130 => ?_) (fun g130 => ?_)
                                · refine sp ?_
                                  iterate 7 (refine sp ?_)
                                  refine st (h := O) ?_
                                  refine nl ?_
                                  refine cT ?_
                                  refine dr 9 [35, 13, 3] [0, 1, 2002, 2003, 4, 2005, 2006, 2007, 8, 2010, 2011, 1009, 2012, 1013] ?_
                                  iterate 2 (refine dt (hv := by exact O) ?_)
                                  iterate 2 (refine dq (hv := by exact fun _ _ => O) ?_)
                                  refine dt (hv := by exact O) ?_
                                  iterate 2 (refine dq (hv := by exact fun _ _ => O) ?_)
                                  refine dq (hv := by exact fun _ _ => sdFA) ?_
                                  refine dt (hv := by exact (sdXA (z := 1))) ?_
                                  refine dq (hv := by exact fun _ _ => O) ?_
                                  refine dq (hv := by exact fun _ _ => sdFA) ?_
                                  first | refine dsoG ?_ | refine dso ?_
                                  refine dq (hv := by exact fun _ _ => (sdXA (z := 1))) ?_
                                  first | refine dsoG ?_ | refine dso ?_
                                  refine dn ?_
                                  refine bk ?_
                                  refine rg ?_
                                  refine st (h := sdA) ?_
                                  refine st (h := O) ?_
                                  refine nl ?_
                                  refine bk2 (c + 1) (_) (by exact ⟨rfl, trivial⟩) (by exact ⟨rfl, rfl, rfl, rfl, rfl, rfl, rfl, rfl, trivial⟩) (by exact ⟨rfl, rfl, rfl, rfl, rfl, rfl, trivial⟩) ?_ ?_
                                  · omega
                                  · refine ⟨by omega, ?_⟩
                                    have hu : updB l x (tabD l x k) a1 (a1 + m) (bRow l x (tabD l x k) a1 m) c = (((a1 + m : Nat) : Int), cstB l x (tabD l x k) a1 (a1 + m) c) := by unfold updB; rw [if_pos (.inl (hA ▸ g130))]
                                    refine hT2.upd hc (by omega) (by omega) ?_ (fun c' h1 h2 => ?_)
                                    · rw [if_pos (by omega), hu]
                                    · by_cases h : c' < c
                                      · rw [if_pos (by omega), if_pos h]
                                      · rw [if_neg (by omega), if_neg h]
                                · refine sg (h := O) ?_
                                  iterate 3 (refine sg (h := O) ?_)
                                  refine sg (h := sdFA) ?_
                                  refine sg (h := (sdXA (z := 1))) ?_
                                  refine sg (h := (by first | exact sdLG | exact sdW)) ?_
                                  refine sg (h := O) ?_
                                  refine st (h := O) ?_
                                  refine nl ?_
                                  refine cD (fun c8 => ?_) (fun c8 => ?_)
                                  · refine dr 9 [35, 13, 3] [0, 1, 2002, 2003, 4, 2005, 2006, 2007, 8, 2010, 2011, 1009, 2012, 1013] ?_
                                    iterate 2 (refine dt (hv := by exact O) ?_)
                                    iterate 2 (refine dq (hv := by exact fun _ _ => O) ?_)
                                    refine dt (hv := by exact O) ?_
                                    iterate 2 (refine dq (hv := by exact fun _ _ => O) ?_)
                                    refine dq (hv := by exact fun _ _ => sdFA) ?_
                                    refine dt (hv := by exact (sdXA (z := 1))) ?_
                                    refine dq (hv := by exact fun _ _ => O) ?_
                                    refine dq (hv := by exact fun _ _ => sdFA) ?_
                                    first | refine dsoG ?_ | refine dso ?_
                                    refine dq (hv := by exact fun _ _ => (sdXA (z := 1))) ?_
                                    first | refine dsoG ?_ | refine dso ?_
                                    refine dn ?_
                                    refine bk ?_
                                    refine rg ?_
                                    refine st (h := sdA) ?_
                                    refine st (h := O) ?_
                                    refine nl ?_
                                    refine bk2 (c + 1) (_) (by exact ⟨rfl, trivial⟩) (by exact ⟨rfl, rfl, rfl, rfl, rfl, rfl, rfl, rfl, trivial⟩) (by exact ⟨rfl, rfl, rfl, rfl, rfl, rfl, trivial⟩) ?_ ?_
                                    · omega
                                    · refine ⟨by omega, ?_⟩
                                      have hu : updB l x (tabD l x k) a1 (a1 + m) (bRow l x (tabD l x k) a1 m) c = (((a1 + m : Nat) : Int), cstB l x (tabD l x k) a1 (a1 + m) c) := by unfold updB; rw [if_pos (.inr (hB ▸ c8))]
                                      refine hT2.upd hc (by omega) (by omega) ?_ (fun c' h1 h2 => ?_)
                                      · rw [if_pos (by omega), hu]
                                      · by_cases h : c' < c
                                        · rw [if_pos (by omega), if_pos h]
                                        · rw [if_neg (by omega), if_neg h]
                                  · refine sk ?_
                                    refine bk ?_
                                    refine rg ?_
                                    refine st (h := sdA) ?_
                                    refine st (h := O) ?_
                                    refine nl ?_
                                    refine bk2 (c + 1) (_) (by exact ⟨rfl, trivial⟩) (by exact ⟨rfl, rfl, rfl, rfl, rfl, rfl, rfl, rfl, trivial⟩) (by exact ⟨rfl, rfl, rfl, rfl, rfl, rfl, trivial⟩) ?_ ?_
                                    · omega
                                    · refine ⟨by omega, ?_⟩
                                      have hu : updB l x (tabD l x k) a1 (a1 + m) (bRow l x (tabD l x k) a1 m) c = bRow l x (tabD l x k) a1 m c := by
                                        unfold updB
                                        rw [if_neg (by rintro (h | h); · exact g130 (hA.trans h)
                                                       · exact c8 (by rw [hB]; exact h))]
                                      refine hT2.cong fun c' h1 => ?_
                                      by_cases h2 : c' = c
                                      · subst h2; rw [if_pos (by omega), if_neg (by omega), hu]
                                      · by_cases h : c' < c
                                        · rw [if_pos (by omega), if_pos h]
                                        · rw [if_neg (by omega), if_neg h]
                              · have hcst : demD l x (judD l x a1 (a1 + m)).bad (judD l x a1 (a1 + m)).cls c ((a1 : Int) - 1) (a1 + m : Nat) = cstB l x (tabD l x k) a1 (a1 + m) c := by
                                  unfold cstB; rw [if_neg (by omega), Int.add_zero]
                                refine sk ?_
                                refine sq ?_
                                rw [hcst]
                                have hA : T2 (0 + ((a1 : Int) - 1 + 1).toNat * 8 + 0 + (c : Int).toNat * 1) = (bRow l x (tabD l x k) a1 m c).1 := by
                                  rw [hT2.at (i := a1) (c := c) (by omega) (by omega) (by omega)]
                                  simp [setR]
                                have hB : T2 (0 + ((a1 : Int) - 1 + 1).toNat * 8 + 4 + (c : Int).toNat * 1) = (bRow l x (tabD l x k) a1 m c).2 := by
                                  rw [hT2.at4 (i := a1) (c := c) (by omega) (by omega) (by omega)]
                                  simp [setR]
                                refine rg ?_
                                iterate 3 (refine st (h := O) ?_)
                                refine st (h := sdFA) ?_
                                refine st (h := (sdXA (z := 1))) ?_
                                refine st (h := (by first | exact sdLG | exact sdW)) ?_
                                iterate 2 (refine st (h := O) ?_)
                                refine gD (fun g130 => ?_) (fun g130 => ?_)
                                · refine sp ?_
                                  iterate 7 (refine sp ?_)
                                  refine st (h := O) ?_
                                  refine nl ?_
                                  refine cT ?_
                                  refine dr 9 [35, 13, 3] [0, 1, 2002, 2003, 4, 2005, 2006, 2007, 8, 2010, 2011, 1009, 2012, 1013] ?_
                                  iterate 2 (refine dt (hv := by exact O) ?_)
                                  iterate 2 (refine dq (hv := by exact fun _ _ => O) ?_)
                                  refine dt (hv := by exact O) ?_
                                  iterate 2 (refine dq (hv := by exact fun _ _ => O) ?_)
                                  refine dq (hv := by exact fun _ _ => sdFA) ?_
                                  refine dt (hv := by exact (sdXA (z := 1))) ?_
                                  refine dq (hv := by exact fun _ _ => O) ?_
                                  refine dq (hv := by exact fun _ _ => sdFA) ?_
                                  first | refine dsoG ?_ | refine dso ?_
                                  refine dq (hv := by exact fun _ _ => (sdXA (z := 1))) ?_
                                  first | refine dsoG ?_ | refine dso ?_
                                  refine dn ?_
                                  refine bk ?_
                                  refine rg ?_
                                  refine st (h := sdA) ?_
                                  refine st (h := O) ?_
                                  refine nl ?_
                                  refine bk2 (c + 1) (_) (by exact ⟨rfl, trivial⟩) (by exact ⟨rfl, rfl, rfl, rfl, rfl, rfl, rfl, rfl, trivial⟩) (by exact ⟨rfl, rfl, rfl, rfl, rfl, rfl, trivial⟩) ?_ ?_
                                  · omega
                                  · refine ⟨by omega, ?_⟩
                                    have hu : updB l x (tabD l x k) a1 (a1 + m) (bRow l x (tabD l x k) a1 m) c = (((a1 + m : Nat) : Int), cstB l x (tabD l x k) a1 (a1 + m) c) := by unfold updB; rw [if_pos (.inl (hA ▸ g130))]
                                    refine hT2.upd hc (by omega) (by omega) ?_ (fun c' h1 h2 => ?_)
                                    · rw [if_pos (by omega), hu]
                                    · by_cases h : c' < c
                                      · rw [if_pos (by omega), if_pos h]
                                      · rw [if_neg (by omega), if_neg h]
                                · refine sg (h := O) ?_
                                  iterate 3 (refine sg (h := O) ?_)
                                  refine sg (h := sdFA) ?_
                                  refine sg (h := (sdXA (z := 1))) ?_
                                  refine sg (h := (by first | exact sdLG | exact sdW)) ?_
                                  refine sg (h := O) ?_
                                  refine st (h := O) ?_
                                  refine nl ?_
                                  refine cD (fun c8 => ?_) (fun c8 => ?_)
                                  · refine dr 9 [35, 13, 3] [0, 1, 2002, 2003, 4, 2005, 2006, 2007, 8, 2010, 2011, 1009, 2012, 1013] ?_
                                    iterate 2 (refine dt (hv := by exact O) ?_)
                                    iterate 2 (refine dq (hv := by exact fun _ _ => O) ?_)
                                    refine dt (hv := by exact O) ?_
                                    iterate 2 (refine dq (hv := by exact fun _ _ => O) ?_)
                                    refine dq (hv := by exact fun _ _ => sdFA) ?_
                                    refine dt (hv := by exact (sdXA (z := 1))) ?_
                                    refine dq (hv := by exact fun _ _ => O) ?_
                                    refine dq (hv := by exact fun _ _ => sdFA) ?_
                                    first | refine dsoG ?_ | refine dso ?_
                                    refine dq (hv := by exact fun _ _ => (sdXA (z := 1))) ?_
                                    first | refine dsoG ?_ | refine dso ?_
                                    refine dn ?_
                                    refine bk ?_
                                    refine rg ?_
                                    refine st (h := sdA) ?_
                                    refine st (h := O) ?_
                                    refine nl ?_
                                    refine bk2 (c + 1) (_) (by exact ⟨rfl, trivial⟩) (by exact ⟨rfl, rfl, rfl, rfl, rfl, rfl, rfl, rfl, trivial⟩) (by exact ⟨rfl, rfl, rfl, rfl, rfl, rfl, trivial⟩) ?_ ?_
                                    · omega
                                    · refine ⟨by omega, ?_⟩
                                      have hu : updB l x (tabD l x k) a1 (a1 + m) (bRow l x (tabD l x k) a1 m) c = (((a1 + m : Nat) : Int), cstB l x (tabD l x k) a1 (a1 + m) c) := by unfold updB; rw [if_pos (.inr (hB ▸ c8))]
                                      refine hT2.upd hc (by omega) (by omega) ?_ (fun c' h1 h2 => ?_)
                                      · rw [if_pos (by omega), hu]
                                      · by_cases h : c' < c
                                        · rw [if_pos (by omega), if_pos h]
                                        · rw [if_neg (by omega), if_neg h]
                                  · refine sk ?_
                                    refine bk ?_
                                    refine rg ?_
                                    refine st (h := sdA) ?_
                                    refine st (h := O) ?_
                                    refine nl ?_
                                    refine bk2 (c + 1) (_) (by exact ⟨rfl, trivial⟩) (by exact ⟨rfl, rfl, rfl, rfl, rfl, rfl, rfl, rfl, trivial⟩) (by exact ⟨rfl, rfl, rfl, rfl, rfl, rfl, trivial⟩) ?_ ?_
                                    · omega
                                    · refine ⟨by omega, ?_⟩
                                      have hu : updB l x (tabD l x k) a1 (a1 + m) (bRow l x (tabD l x k) a1 m) c = bRow l x (tabD l x k) a1 m c := by
                                        unfold updB
                                        rw [if_neg (by rintro (h | h); · exact g130 (hA.trans h)
                                                       · exact c8 (by rw [hB]; exact h))]
                                      refine hT2.cong fun c' h1 => ?_
                                      by_cases h2 : c' = c
                                      · subst h2; rw [if_pos (by omega), if_neg (by omega), hu]
                                      · by_cases h : c' < c
                                        · rw [if_pos (by omega), if_pos h]
                                        · rw [if_neg (by omega), if_neg h]
                            · refine ex ?_
                              refine bk ?_
                              refine rg ?_
                              refine st (h := O) ?_
                              refine st (h := sdA) ?_
                              refine st (h := O) ?_
                              refine nl ?_
                              refine bk2 (_) (_) (by exact ⟨rfl, trivial⟩) (by exact ⟨rfl, rfl, rfl, rfl, rfl, rfl, trivial⟩) (by exact ⟨rfl, rfl, rfl, rfl, trivial⟩) ?_ ?_
                              · omega
                              · obtain rfl : c = 4 := by omega
                                refine ⟨by omega, by omega, ?_⟩
                                rw [show (((a1 + m : Nat) : Int) + 1 - a1).toNat = m + 1 from by omega, bRow, if_pos hok]
                                exact hT2.cong fun c' hc' => (by rw [if_pos hc'])
                      · have hok : okB l x (tabD l x k) a1 (a1 + m) = true := by
                          simp only [okB, Bool.and_eq_true, Bool.or_eq_true, Bool.not_eq_true', decide_eq_false_iff_not]
                          exact ⟨of_not c4, of_not g82, .inl (by omega)⟩
                        iterate 10 (refine dp ?_)
                        refine dg (hv := by exact O) ?_
                        refine dt (hv := by exact O) ?_
                        refine dn ?_
                        refine cF ?_
                        refine sk ?_
                        refine sq ?_
                        refine rg ?_
                        refine st (h := O) ?_
                        refine nl ?_
                        refine bl ?_
                        refine J.loop2 (α := Nat) (β := Nat → Int) (fun c T2 => c ≤ 4 ∧ TB l T2 (setR (tabD l x k) a1 (fun c' => if c' < c then updB l x (tabD l x k) a1 (a1 + m) (bRow l x (tabD l x k) a1 m) c' else bRow l x (tabD l x k) a1 m c'))) (fun c T2 => [(99, .int .i64 c)]) [(3, _), (7, _), (8, _), (9, _), (10, _), (11, _), (12, _), (13, _)] (fun c T2 => [(35, { elem := 69, cs := gI T2 (l.length * 8), room := l.length * 8, flat := true })]) [(13, _), (3, _)] (fun c T2 => 4 - c) (0) (_) (by exact ⟨rfl, trivial⟩) (by exact ⟨rfl, rfl, rfl, rfl, rfl, rfl, rfl, rfl, trivial⟩) (by exact ⟨rfl, rfl, rfl, rfl, rfl, rfl, trivial⟩) ?_ ?_
                        · refine ⟨by omega, ?_⟩
                          exact hT'.cong fun c' hc' => (by rw [if_neg (by omega)])
                        · intro c T2 L1 K1 e1 e2 hI
                          dsimp only [apV, apR, List.cons_append, List.nil_append] at e1 e2
                          subst e1 e2
                          obtain ⟨hc4, hT2⟩ := hI
                          refine sq ?_
                          refine rg ?_
                          refine st (h := O) ?_
                          refine nl ?_
                          refine sq ?_
                          refine cD (fun c6 => ?_) (fun c6 => ?_)
                          · have hc : c < 4 := by omega
                            refine sk ?_
                            refine sq ?_
                            refine bl ?_
                            refine sq ?_
                            refine rg ?_
                            iterate 2 (refine st (h := O) ?_)
                            refine nl ?_
                            refine sq ?_
                            refine rg ?_
                            refine st (h := O) ?_
                            refine st (h := sdLN) ?_
                            iterate 3 (refine st (h := O) ?_)
                            refine st (h := sdLN) ?_
                            refine cl (h := by exact fun ι hV hl => hDm _ (hp.le hl) _ _ _ _ _ _ _ _ _ (by omega) (by omega)) ?_
                            refine st (h := O) ?_
                            refine nl ?_
                            iterate 2 (refine sq ?_)
                            refine rg ?_
                            iterate 3 (refine st (h := O) ?_)
                            refine nl ?_
                            refine cD (fun c7 => ?_) (fun c7 => ?_)
                            · have hTc : T2 (0 + (((a1 + m : Nat) : Int) + 1).toNat * 8 + 4 + (judD l x a1 (a1 + m)).cls.toNat * 1) = (tabD l x k (a1 + m + 1) (judD l x a1 (a1 + m)).cls.toNat).2 := by
                                rw [hT2.at4 (i := a1 + m + 1) (c := (judD l x a1 (a1 + m)).cls.toNat) (by omega) (by omega) (by omega)]
                                simp only [setR]
                                rw [if_neg (by omega)]
                              have htb := htk (a1 + m + 1) (judD l x a1 (a1 + m)).cls.toNat (by omega)
                              have htb1 := htb.cl
                              have htb2 := htb.ch
                              have hdb := demD_bd l x (judD l x a1 (a1 + m)).bad (judD l x a1 (a1 + m)).cls c ((a1 : Int) - 1) (a1 + m : Nat)
                              have hcst : demD l x (judD l x a1 (a1 + m)).bad (judD l x a1 (a1 + m)).cls c ((a1 : Int) - 1) (a1 + m : Nat) + T2 (0 + (((a1 + m : Nat) : Int) + 1).toNat * 8 + 4 + (judD l x a1 (a1 + m)).cls.toNat * 1) = cstB l x (tabD l x k) a1 (a1 + m) c := by
                                rw [hTc]; unfold cstB; rw [if_pos (by omega)]
                              refine dr 12 [35, 13, 3] [0, 1, 2, 3, 4, 5, 6, 7, 8, 9, 10, 11] ?_
                              iterate 3 (refine dt (hv := by exact O) ?_)
                              refine dt (hv := by exact sdA) ?_
                              refine dt (hv := by exact sdFA) ?_
                              refine dt (hv := by exact sdL) ?_
                              refine dt (hv := by exact (sdX (z := 8))) ?_
                              refine dt (hv := by exact sdFA) ?_
                              refine dt (hv := by exact (sdXA (z := 1))) ?_
                              refine dt (hv := by exact (by first | exact sdLG | exact sdW)) ?_
                              refine dt (hv := by exact sdA) ?_
                              refine dt (hv := by exact O) ?_
                              refine dn ?_
                              refine sq ?_
                              rw [hcst]
                              have hA : T2 (0 + ((a1 : Int) - 1 + 1).toNat * 8 + 0 + (c : Int).toNat * 1) = (bRow l x (tabD l x k) a1 m c).1 := by
                                rw [hT2.at (i := a1) (c := c) (by omega) (by omega) (by omega)]
                                simp [setR]
                              have hB : T2 (0 + ((a1 : Int) - 1 + 1).toNat * 8 + 4 + (c : Int).toNat * 1) = (bRow l x (tabD l x k) a1 m c).2 := by
                                rw [hT2.at4 (i := a1) (c := c) (by omega) (by omega) (by omega)]
                                simp [setR]
                              refine rg ?_
                              iterate 3 (refine st (h := O) ?_)
                              refine st (h := sdFA) ?_
                              refine st (h := (sdXA (z := 1))) ?_
                              refine st (h := (by first | exact sdLG | exact sdW)) ?_
                              iterate 2 (refine st (h := O) ?_)
                              refine gD (fun g130 => ?_) (fun g130 => ?_)
                              · refine sp ?_
                                iterate 7 (refine sp ?_)
                                refine st (h := O) ?_
                                refine nl ?_
                                refine cT ?_
                                refine dr 9 [35, 13, 3] [0, 1, 2002, 2003, 4, 2005, 2006, 2007, 8, 2010, 2011, 1009, 2012, 1013] ?_
                                iterate 2 (refine dt (hv := by exact O) ?_)
                                iterate 2 (refine dq (hv := by exact fun _ _ => O) ?_)
                                refine dt (hv := by exact O) ?_
                                iterate 2 (refine dq (hv := by exact fun _ _ => O) ?_)
                                refine dq (hv := by exact fun _ _ => sdFA) ?_
                                refine dt (hv := by exact (sdXA (z := 1))) ?_
                                refine dq (hv := by exact fun _ _ => O) ?_
                                refine dq (hv := by exact fun _ _ => sdFA) ?_
                                first | refine dsoG ?_ | refine dso ?_
                                refine dq (hv := by exact fun _ _ => (sdXA (z := 1))) ?_
                                first | refine dsoG ?_ | refine dso ?_
                                refine dn ?_
                                refine bk ?_
                                refine rg ?_
                                refine st (h := sdA) ?_
                                refine st (h := O) ?_
                                refine nl ?_
                                refine bk2 (c + 1) (_) (by exact ⟨rfl, trivial⟩) (by exact ⟨rfl, rfl, rfl, rfl, rfl, rfl, rfl, rfl, trivial⟩) (by exact ⟨rfl, rfl, rfl, rfl, rfl, rfl, trivial⟩) ?_ ?_
                                · omega
                                · refine ⟨by omega, ?_⟩
                                  have hu : updB l x (tabD l x k) a1 (a1 + m) (bRow l x (tabD l x k) a1 m) c = (((a1 + m : Nat) : Int), cstB l x (tabD l x k) a1 (a1 + m) c) := by unfold updB; rw [if_pos (.inl (hA ▸ g130))]
                                  refine hT2.upd hc (by omega) (by omega) ?_ (fun c' h1 h2 => ?_)
                                  · rw [if_pos (by omega), hu]
                                  · by_cases h : c' < c
                                    · rw [if_pos (by omega), if_pos h]
                                    · rw [if_neg (by omega), if_neg h]
                              · refine sg (h := O) ?_
                                iterate 3 (refine sg (h := O) ?_)
                                refine sg (h := sdFA) ?_
                                refine sg (h := (sdXA (z := 1))) ?_
                                refine sg (h := (by first | exact sdLG | exact sdW)) ?_
                                refine sg (h := O) ?_
                                refine st (h := O) ?_
                                refine nl ?_
                                refine cD (fun c8 => ?_) (fun c8 => ?_)
                                · refine dr 9 [35, 13, 3] [0, 1, 2002, 2003, 4, 2005, 2006, 2007, 8, 2010, 2011, 1009, 2012, 1013] ?_
                                  iterate 2 (refine dt (hv := by exact O) ?_)
                                  iterate 2 (refine dq (hv := by exact fun _ _ => O) ?_)
                                  refine dt (hv := by exact O) ?_
                                  iterate 2 (refine dq (hv := by exact fun _ _ => O) ?_)
                                  refine dq (hv := by exact fun _ _ => sdFA) ?_
                                  refine dt (hv := by exact (sdXA (z := 1))) ?_
                                  refine dq (hv := by exact fun _ _ => O) ?_
                                  refine dq (hv := by exact fun _ _ => sdFA) ?_
                                  first | refine dsoG ?_ | refine dso ?_
                                  refine dq (hv := by exact fun _ _ => (sdXA (z := 1))) ?_
                                  first | refine dsoG ?_ | refine dso ?_
                                  refine dn ?_
                                  refine bk ?_
                                  refine rg ?_
                                  refine st (h := sdA) ?_
                                  refine st (h := O) ?_
                                  refine nl ?_
                                  refine bk2 (c + 1) (_) (by exact ⟨rfl, trivial⟩) (by exact ⟨rfl, rfl, rfl, rfl, rfl, rfl, rfl, rfl, trivial⟩) (by exact ⟨rfl, rfl, rfl, rfl, rfl, rfl, trivial⟩) ?_ ?_
                                  · omega
                                  · refine ⟨by omega, ?_⟩
                                    have hu : updB l x (tabD l x k) a1 (a1 + m) (bRow l x (tabD l x k) a1 m) c = (((a1 + m : Nat) : Int), cstB l x (tabD l x k) a1 (a1 + m) c) := by unfold updB; rw [if_pos (.inr (hB ▸ c8))]
                                    refine hT2.upd hc (by omega) (by omega) ?_ (fun c' h1 h2 => ?_)
                                    · rw [if_pos (by omega), hu]
                                    · by_cases h : c' < c
                                      · rw [if_pos (by omega), if_pos h]
                                      · rw [if_neg (by omega), if_neg h]
                                · refine sk ?_
                                  refine bk ?_
                                  refine rg ?_
                                  refine st (h := sdA) ?_
                                  refine st (h := O) ?_
                                  refine nl ?_
                                  refine bk2 (c + 1) (_) (by exact ⟨rfl, trivial⟩) (by exact ⟨rfl, rfl, rfl, rfl, rfl, rfl, rfl, rfl, trivial⟩) (by exact ⟨rfl, rfl, rfl, rfl, rfl, rfl, trivial⟩) ?_ ?_
                                  · omega
                                  · refine ⟨by omega, ?_⟩
                                    have hu : updB l x (tabD l x k) a1 (a1 + m) (bRow l x (tabD l x k) a1 m) c = bRow l x (tabD l x k) a1 m c := by
                                      unfold updB
                                      rw [if_neg (by rintro (h | h); · exact g130 (hA.trans h)
                                                     · exact c8 (by rw [hB]; exact h))]
                                    refine hT2.cong fun c' h1 => ?_
                                    by_cases h2 : c' = c
                                    · subst h2; rw [if_pos (by omega), if_neg (by omega), hu]
                                    · by_cases h : c' < c
                                      · rw [if_pos (by omega), if_pos h]
                                      · rw [if_neg (by omega), if_neg h]
                            · have hcst : demD l x (judD l x a1 (a1 + m)).bad (judD l x a1 (a1 + m)).cls c ((a1 : Int) - 1) (a1 + m : Nat) = cstB l x (tabD l x k) a1 (a1 + m) c := by
                                unfold cstB; rw [if_neg (by omega), Int.add_zero]
                              refine sk ?_
                              refine sq ?_
                              rw [hcst]
                              have hA : T2 (0 + ((a1 : Int) - 1 + 1).toNat * 8 + 0 + (c : Int).toNat * 1) = (bRow l x (tabD l x k) a1 m c).1 := by
                                rw [hT2.at (i := a1) (c := c) (by omega) (by omega) (by omega)]
                                simp [setR]
                              have hB : T2 (0 + ((a1 : Int) - 1 + 1).toNat * 8 + 4 + (c : Int).toNat * 1) = (bRow l x (tabD l x k) a1 m c).2 := by
                                rw [hT2.at4 (i := a1) (c := c) (by omega) (by omega) (by omega)]
                                simp [setR]
                              refine rg ?_
                              iterate 3 (refine st (h := O) ?_)
                              refine st (h := sdFA) ?_
                              refine st (h := (sdXA (z := 1))) ?_
                              refine st (h := (by first | exact sdLG | exact sdW)) ?_
                              iterate 2 (refine st (h := O) ?_)
                              refine gD (fun g130 => ?_) (fun g130 => ?_)
                              · refine sp ?_
                                iterate 7 (refine sp ?_)
                                refine st (h := O) ?_
                                refine nl ?_
                                refine cT ?_
                                refine dr 9 [35, 13, 3] [0, 1, 2002, 2003, 4, 2005, 2006, 2007, 8, 2010, 2011, 1009, 2012, 1013] ?_
                                iterate 2 (refine dt (hv := by exact O) ?_)
                                iterate 2 (refine dq (hv := by exact fun _ _ => O) ?_)
                                refine dt (hv := by exact O) ?_
                                iterate 2 (refine dq (hv := by exact fun _ _ => O) ?_)
                                refine dq (hv := by exact fun _ _ => sdFA) ?_
                                refine dt (hv := by exact (sdXA (z := 1))) ?_
                                refine dq (hv := by exact fun _ _ => O) ?_
                                refine dq (hv := by exact fun _ _ => sdFA) ?_
                                first | refine dsoG ?_ | refine dso ?_
                                refine dq (hv := by exact fun _ _ => (sdXA (z := 1))) ?_
                                first | refine dsoG ?_ | refine dso ?_
                                refine dn ?_
                                refine bk ?_
                                refine rg ?_
                                refine st (h := sdA) ?_
                                refine st (h := O) ?_
                                refine nl ?_
                                refine bk2 (c + 1) (_) (by exact ⟨rfl, trivial⟩) (by exact ⟨rfl, rfl, rfl, rfl, rfl, rfl, rfl, rfl, trivial⟩) (by exact ⟨rfl, rfl, rfl, rfl, rfl, rfl, trivial⟩) ?_ ?_
                                · omega
                                · refine ⟨by omega, ?_⟩
                                  have hu : updB l x (tabD l x k) a1 (a1 + m) (bRow l x (tabD l x k) a1 m) c = (((a1 + m : Nat) : Int), cstB l x (tabD l x k) a1 (a1 + m) c) := by unfold updB; rw [if_pos (.inl (hA ▸ g130))]
                                  refine hT2.upd hc (by omega) (by omega) ?_ (fun c' h1 h2 => ?_)
                                  · rw [if_pos (by omega), hu]
                                  · by_cases h : c' < c
                                    · rw [if_pos (by omega), if_pos h]
                                    · rw [if_neg (by omega), if_neg h]
                              · refine sg (h := O) ?_
                                iterate 3 (refine sg (h := O) ?_)
                                refine sg (h := sdFA) ?_
                                refine sg (h := (sdXA (z := 1))) ?_
                                refine sg (h := (by first | exact sdLG | exact sdW)) ?_
                                refine sg (h := O) ?_
                                refine st (h := O) ?_
                                refine nl ?_
                                refine cD (fun c8 => ?_) (fun c8 => ?_)
                                · refine dr 9 [35, 13, 3] [0, 1, 2002, 2003, 4, 2005, 2006, 2007, 8, 2010, 2011, 1009, 2012, 1013] ?_
                                  iterate 2 (refine dt (hv := by exact O) ?_)
                                  iterate 2 (refine dq (hv := by exact fun _ _ => O) ?_)
                                  refine dt (hv := by exact O) ?_
                                  iterate 2 (refine dq (hv := by exact fun _ _ => O) ?_)
                                  refine dq (hv := by exact fun _ _ => sdFA) ?_
                                  refine dt (hv := by exact (sdXA (z := 1))) ?_
                                  refine dq (hv := by exact fun _ _ => O) ?_
                                  refine dq (hv := by exact fun _ _ => sdFA) ?_
                                  first | refine dsoG ?_ | refine dso ?_
                                  refine dq (hv := by exact fun _ _ => (sdXA (z := 1))) ?_
                                  first | refine dsoG ?_ | refine dso ?_
                                  refine dn ?_
                                  refine bk ?_
                                  refine rg ?_
                                  refine st (h := sdA) ?_
                                  refine st (h := O) ?_
                                  refine nl ?_
                                  refine bk2 (c + 1) (_) (by exact ⟨rfl, trivial⟩) (by exact ⟨rfl, rfl, rfl, rfl, rfl, rfl, rfl, rfl, trivial⟩) (by exact ⟨rfl, rfl, rfl, rfl, rfl, rfl, trivial⟩) ?_ ?_
                                  · omega
                                  · refine ⟨by omega, ?_⟩
                                    have hu : updB l x (tabD l x k) a1 (a1 + m) (bRow l x (tabD l x k) a1 m) c = (((a1 + m : Nat) : Int), cstB l x (tabD l x k) a1 (a1 + m) c) := by unfold updB; rw [if_pos (.inr (hB ▸ c8))]
                                    refine hT2.upd hc (by omega) (by omega) ?_ (fun c' h1 h2 => ?_)
                                    · rw [if_pos (by omega), hu]
                                    · by_cases h : c' < c
                                      · rw [if_pos (by omega), if_pos h]
                                      · rw [if_neg (by omega), if_neg h]
                                · refine sk ?_
                                  refine bk ?_
                                  refine rg ?_
                                  refine st (h := sdA) ?_
                                  refine st (h := O) ?_
                                  refine nl ?_
                                  refine bk2 (c + 1) (_) (by exact ⟨rfl, trivial⟩) (by exact ⟨rfl, rfl, rfl, rfl, rfl, rfl, rfl, rfl, trivial⟩) (by exact ⟨rfl, rfl, rfl, rfl, rfl, rfl, trivial⟩) ?_ ?_
                                  · omega
                                  · refine ⟨by omega, ?_⟩
                                    have hu : updB l x (tabD l x k) a1 (a1 + m) (bRow l x (tabD l x k) a1 m) c = bRow l x (tabD l x k) a1 m c := by
                                      unfold updB
                                      rw [if_neg (by rintro (h | h); · exact g130 (hA.trans h)
                                                     · exact c8 (by rw [hB]; exact h))]
                                    refine hT2.cong fun c' h1 => ?_
                                    by_cases h2 : c' = c
                                    · subst h2; rw [if_pos (by omega), if_neg (by omega), hu]
                                    · by_cases h : c' < c
                                      · rw [if_pos (by omega), if_pos h]
                                      · rw [if_neg (by omega), if_neg h]
                          · refine ex ?_
                            refine bk ?_
                            refine rg ?_
                            refine st (h := O) ?_
                            refine st (h := sdA) ?_
                            refine st (h := O) ?_
                            refine nl ?_
                            refine bk2 (_) (_) (by exact ⟨rfl, trivial⟩) (by exact ⟨rfl, rfl, rfl, rfl, rfl, rfl, trivial⟩) (by exact ⟨rfl, rfl, rfl, rfl, trivial⟩) ?_ ?_
                            · omega
                            · obtain rfl : c = 4 := by omega
                              refine ⟨by omega, by omega, ?_⟩
                              rw [show (((a1 + m : Nat) : Int) + 1 - a1).toNat = m + 1 from by omega, bRow, if_pos hok]
                              exact hT2.cong fun c' hc' => (by rw [if_pos hc'])
                · refine ex ?_
                  refine bk ?_
                  refine rg ?_
                  refine st (h := O) ?_
                  refine st (h := sdS) ?_
                  refine st (h := O) ?_
                  refine nl ?_
                  refine bk3 (_) (k + 1) (_) (by exact ⟨rfl, trivial⟩) (by exact ⟨rfl, rfl, rfl, rfl, trivial⟩) (by exact ⟨rfl, rfl, rfl, rfl, trivial⟩) ?_ ?_
                  · omega
                  · have hlt : a1 = 0 ∨ legalB l ((a1 : Int) - 1) = true := by first | exact .inr (of_not c2) | exact .inl (by omega)
                    refine ⟨by omega, by omega, ?_⟩
                    rw [hrow hlt]
                    obtain rfl : b = foA l a1 + 1 := by omega
                    rwa [show ((foA l a1 : Int) + 1 - a1).toNat = foA l a1 + 1 - a1 from by omega] at hT'
          · obtain rfl : a = -2 := by omega
            obtain rfl : k = l.length := by omega
            have hT01 : T (0 + (0 : Int).toNat * 8 + 0 + (1 : Int).toNat * 1) = (tabD l x l.length 0 1).1 := hTb.at (by omega) (by omega) (by omega)
            have hT04 : T (0 + (0 : Int).toNat * 8 + 4 + (1 : Int).toNat * 1) = (tabD l x l.length 0 1).2 := hTb.at4 (by omega) (by omega) (by omega)
            refine ex ?_
            refine sq ?_
            refine rg ?_
            refine cl (h := by exact fun ι hV hl => Class_C _ _ _ _) ?_
            rw [class0]
            refine st (h := O) ?_
            refine nl ?_
            iterate 2 (refine sq ?_)
            refine rg ?_
            iterate 2 (refine st (h := O) ?_)
            refine st (h := (sdX (z := 8))) ?_
            refine st (h := sdFA) ?_
            refine st (h := (sdXA (z := 1))) ?_
            refine st (h := (by first | exact sdLG | exact sdW)) ?_
            refine st (h := O) ?_
            refine nl ?_
            refine cD (fun c9 => ?_) (fun c9 => ?_)
            · refine sq ?_
              refine rg ?_
              iterate 3 (refine st (h := O) ?_)
              refine nl ?_
              have hb := hno (fun h => h.2.2 (hT01 ▸ c9))
              refine J.dropF ?_
              refine rt ⟨_, ?_, .inr ⟨0, 0, rfl⟩, fun G hG => ?_⟩
              · rw [hb]
              · rw [hb]; exact .inr ⟨rfl, rfl⟩
            · have hb := hye ⟨hgl, hgx, fun h => c9 (hT01.trans h)⟩
              refine sk ?_
              refine sq ?_
              refine rg ?_
              refine st (h := O) ?_
              refine nl ?_
              iterate 2 (refine sq ?_)
              refine rg ?_
              refine st (h := O) ?_
              refine nl ?_
              refine bl ?_
              refine J.loop5 (α := Option Nat) (β := Nat) (γ := List Value) (δ := Int) (ε := Int) (fun o m cs a cls => -1 ≤ a ∧ a < l.length ∧ apB o m ∧ (m : Int) ≤ a + 1 ∧ cs.length = m ∧ (0 ≤ cls ∧ cls ≤ 3) ∧ (a + 1 < l.length → (tabD l x l.length (a + 1).toNat cls.toNat).1 ≠ 0) ∧ ∃ xs d, cs = ivs xs ∧ l.length ≤ (a + 1).toNat + d ∧ pathB l x (tabD l x l.length) l.length 0 1 = xs ++ pathB l x (tabD l x l.length) d (a + 1).toNat cls) (fun o m cs a cls => [(16, .int .i64 cls), (17, apV 175 o m), (18, .int .i64 a)]) [(3, _), (7, _), (8, _), (9, _)] (fun o m cs a cls => apR 175 3 1 true o cs ++ []) [(35, _), (3, _)] (fun o m cs a cls => l.length - (a + 1).toNat) (none) (0) ([]) (-1) (1) (by exact ⟨rfl, rfl, rfl, trivial⟩) (by exact ⟨rfl, rfl, rfl, rfl, trivial⟩) (by exact (by repeat' first | exact trivial | refine And.intro rfl ?_)) ?_ ?_
              · exact ⟨by omega, by omega, rfl, by omega, rfl, by omega, fun _ h => c9 (hT01.trans h), [], l.length, rfl, by omega, rfl⟩
              · intro o m cs a cls L1 K1 e1 e2 hI
                rcases o with _ | cap_o
                all_goals
                  dsimp only [apV, apR, List.cons_append, List.nil_append] at e1 e2
                  subst e1 e2
                  obtain ⟨ha, hal, hap, hm, hcl, hcls, hnz, xs, d, rfl, hd, hpath⟩ := hI
                  simp only [apB] at hap
                  try (obtain rfl : m = 0 := hap; obtain rfl : xs = [] := List.eq_nil_of_length_eq_zero (by simpa [ivs] using hcl))
                  iterate 2 (refine sq ?_)
                  refine rg ?_
                  iterate 3 (refine st (h := O) ?_)
                  refine nl ?_
                  refine cD (fun c10 => ?_) (fun c10 => ?_)
                  · obtain ⟨a1, ha1⟩ := Int.eq_ofNat_of_zero_le (show (0 : Int) ≤ a + 1 by omega)
                    have ha1l : a1 < l.length := by omega
                    have e1 : (a + 1).toNat = a1 := by omega
                    rw [e1] at hnz
                    obtain ⟨b, hab, hbl, hb1, hb2, hb3, hb4⟩ := tab_next hgl ha1l (hnz (by omega))
                    have hTx : T (0 + (a + 1).toNat * 8 + 0 + cls.toNat * 1) = (b : Int) := by rw [← hb1]; exact hTb.at (by omega) (by omega) (by omega)
                    have hj := judD_cls l x a1 b
                    refine sk ?_
                    refine bl ?_
                    refine sq ?_
                    refine rg ?_
                    iterate 2 (refine st (h := O) ?_)
                    refine st (h := sdA) ?_
                    refine st (h := O) ?_
                    refine st (h := (sdX (z := 8))) ?_
                    refine st (h := sdFA) ?_
                    refine st (h := (sdXA (z := 1))) ?_
                    refine st (h := (by first | exact sdLG | exact sdW)) ?_
                    refine st (h := O) ?_
                    refine nl ?_
                    refine sq ?_
                    rw [hTx]
                    refine rg ?_
                    iterate 2 (refine st (h := O) ?_)
                    refine sl ?_
                    first | refine apN (news := [_]) 175 true [(3, _), (7, _), (8, _), (9, _), (18, _), (19, _)] [(35, _), (3, _)] ?_ | refine apO (news := [_]) 1175 175 [(3, _), (7, _), (8, _), (9, _), (18, _), (19, _)] [(35, _), (3, _)] ?_
                    intro cap175 hc175 hd175
                    refine st (h := O) ?_
                    refine nl ?_
                    refine rg ?_
                    iterate 4 (refine st (h := O) ?_)
                    refine st (h := sdLN) ?_
                    refine cl (h := by exact fun ι hV hl => hJ _ (hp.le hl) _ a1 b hgl hgx ha1 (by omega) (by omega)) ?_
                    iterate 3 (refine st (h := O) ?_)
                    refine nl ?_
                    refine bk ?_
                    refine bk5 (some _) (_) (_) (_) (_) (by exact ⟨rfl, rfl, rfl, trivial⟩) (by exact ⟨rfl, rfl, rfl, rfl, trivial⟩) (by exact (by repeat' first | exact trivial | refine And.intro rfl ?_)) ?_ ?_
                    · omega
                    · obtain ⟨d, rfl⟩ : ∃ e, d = e + 1 := ⟨d - 1, by omega⟩
                      rw [e1, pathB, if_pos ha1l, hb1, Int.toNat_natCast] at hpath
                      simp only [apB, List.length_append, List.length_cons, List.length_nil]
                      refine ⟨by omega, by omega, by omega, by omega, by first | trivial | omega, hj, fun h => ?_, _ ++ [_], d, by first | exact ivs_snoc _ _ | exact ivs_snoc [] _, by omega, ?_⟩
                      · rw [show ((b : Int) + 1).toNat = b + 1 from by omega]; exact hb4 (by omega)
                      · rw [hpath, List.append_assoc]; rfl
                  · obtain rfl : a = l.length - 1 := by omega
                    refine ex ?_
                    refine sq ?_
                    refine dr 10 [35, 3, 175] [0, 1, 3, 4, 1002, 5, 6, 7, 8, 9] ?_
                    iterate 2 (refine dt (hv := by exact O) ?_)
                    refine dt (hv := by exact (sdX (z := 8))) ?_
                    refine dt (hv := by exact sdFA) ?_
                    refine dcl (hkp := by first | exact Kept.all | exact Kept.k0 | exact Kept.kY) (h := by exact fun ι hV hl => Class_C _ _ _ _) ?_
                    rw [class0]
                    refine dt (hv := by exact (sdXA (z := 1))) ?_
                    refine dt (hv := by exact (by first | exact sdLG | exact sdW)) ?_
                    iterate 3 (refine dt (hv := by exact O) ?_)
                    refine dn ?_
                    refine J.dropF ?_
                    rw [hT04]
                    refine rtX fun ι hV => ?_
                    rw [show ((l.length : Int) - 1 + 1).toNat = l.length from by omega, pathB_end, List.append_nil] at hpath
                    rw [hb, hpath]
                    refine ⟨_, rfl, ?_, fun G hG => ?_⟩
                    · first | exact .inr ⟨0, 0, rfl⟩ | exact .inl ⟨_, _, _, _, rfl⟩
                    · first
                        | exact .inr ⟨rfl, rfl⟩
                        | (simp only [ivs_length] at hcl; subst hcl
                           exact hG.ivs (r := _) (ι := ι) (by repeat (first | exact List.mem_cons_self .. | apply List.mem_cons_of_mem)) rfl (by omega))
  ·
    refine C.go hT Try.func15 Try.ntmps15 ?_
    refine sq ?_
    refine rg ?_
    refine bx ?_
    iterate 3 (refine st (h := O) ?_)
    refine nl ?_
    refine sc ?_
    iterate 2 (refine sq ?_)
    refine rg ?_
    refine st (h := O) ?_
    refine cl (h := by exact fun ι hV hl => IGood_C _ _ [] (hv.le hl)) ?_
    iterate 2 (refine st (h := O) ?_)
    refine gB (fun g23 => ?_) (fun g23 => ?_)
    · refine sp ?_
      iterate 2 (refine sp ?_)
      refine st (h := O) ?_
      refine nl ?_
      refine cT ?_
      refine sq ?_
      refine rg ?_
      iterate 3 (refine st (h := O) ?_)
      refine nl ?_
      refine rt ⟨_, ?_, .inr ⟨0, 0, rfl⟩, fun G hG => ?_⟩
      · rw [hno (fun h => not_of g23 h.1)]
      · rw [hno (fun h => not_of g23 h.1)]; exact .inr ⟨rfl, rfl⟩
    · cases of_not g23

end Go.Proofs.Ytbeblgjibfoanaa.Am
