/- Contracts: where a line may end, how a line is judged -/
import Derived.Test.YtbeblgjibfoanaaU7
namespace Go.Proofs.Ytbeblgjibfoanaa.Am
set_option linter.unusedSimpArgs false
set_option linter.unusedVariables false
set_option maxRecDepth 100000
set_option maxHeartbeats 4000000
open Go Go.RowKit
/-- a pointer to what begins with items -/
def RHead (F : Mem) (p : Value) (l : List Item) : Prop := ∃ pb po v, p = .pointer (some ⟨pb, po, none⟩) ∧ look F ⟨pb, po + 0, none⟩ = some v ∧ RItems F v l
theorem RHead.le {F F' : Mem} {p : Value} {l : List Item} (h : RHead F p l) (hl : F.le F') : RHead F' p l := by
  obtain ⟨pb, po, v, h1, h2, h3⟩ := h
  exact ⟨pb, po, v, h1, hl _ _ h2, h3.le hl⟩
theorem RPara.head {F : Mem} {p : Value} {l : List Item} (h : RPara F p l) : RHead F p l := by
  obtain ⟨pb, po, lb, lo, lc, wb, wo, wc, yb, yo, yc, zb, zo, zc, bb, bo, bc, fb, fo, fc, h0, ⟨h1, h2, h3, h4, h5, h6⟩, h7, h8⟩ := h
  exact ⟨pb, po, _, h0, h1, h7⟩
theorem legal_C (F : Mem) (p : Value) (l : List Item) (i : Int) (hp : RHead F p l) : C0 Try.prog 37 [p, .int .i64 i] F (.bool (legalB l i)) := by
  obtain ⟨pb, po, v, rfl, h1, hv⟩ := hp
  by_cases hi : 0 ≤ i ∧ i < l.length
  · obtain ⟨k, rfl⟩ := Int.eq_ofNat_of_zero_le hi.1
    have hkl : k < l.length := by omega
    rcases hv.cases with ⟨b, off, c, rfl, hlen, hr⟩ | ⟨rfl, rfl⟩
    · obtain ⟨r0, r1, r2, r3, r4, r5, g, hg, hri⟩ := hr k hkl
      have p0 : 0 < k → look F ⟨b, off + ((k : Int) - 1).toNat * 11 + 0, none⟩ = some (.int .i64 (at_ l ((k : Int) - 1).toNat).kind) := fun h => (hr _ (by omega)).1
      have hL : legalB l (k : Int) = ((decide ((at_ l k).kind = 2) && decide ((0 : Int) < (k : Int)) && decide ((at_ l ((k : Int) - 1).toNat).kind = 1)) || (decide ((at_ l k).kind = 3) && decide ((at_ l k).cost < 10000))) := by simp [legalB, hkl]
      rw [hL]
      clear hr hv hL
      have hN : rdN F [] ⟨b, off + k * 11, none⟩ 11 = some ((at_ l k).cells g) := hg
      generalize at_ l k = x at *
      generalize at_ l ((k : Int) - 1).toNat = y at *
      rcases hri with (⟨gb, go, gc, rfl, _, _⟩ | ⟨rfl, _⟩) | ⟨gb, go, gsp, rfl, _⟩
      all_goals refine C.go hT Try.func37 Try.ntmps37 ?_
      all_goals
        by_cases hk0 : 0 < k
        · have p := p0 hk0
          (repeat' (first | refine st ?_ | refine nl ?_ | refine sq ?_ | refine rg ?_ | refine bl ?_ | refine sk ?_ | refine bk ?_ | refine bx ?_ | refine al ?_ | refine so ?_ | refine mk ?_ | refine ex ?_ | refine lb ?_ | refine cT ?_ | refine cF ?_ | refine sg ?_ | refine sp ?_ | refine su ?_ | refine gD (fun _ => ?_) (fun _ => ?_) | refine gN (fun _ => ?_) (fun _ => ?_) | refine cD (fun _ => ?_) (fun _ => ?_) | refine cN (fun _ => ?_) (fun _ => ?_)))
          all_goals first
            | (exfalso; omega)
            | (refine rt ⟨?_, rfl⟩; simp [*])
        · (repeat' (first | refine st ?_ | refine nl ?_ | refine sq ?_ | refine rg ?_ | refine bl ?_ | refine sk ?_ | refine bk ?_ | refine bx ?_ | refine al ?_ | refine so ?_ | refine mk ?_ | refine ex ?_ | refine lb ?_ | refine cT ?_ | refine cF ?_ | refine sg ?_ | refine sp ?_ | refine su ?_ | refine gD (fun _ => ?_) (fun _ => ?_) | refine gN (fun _ => ?_) (fun _ => ?_) | refine cD (fun _ => ?_) (fun _ => ?_) | refine cN (fun _ => ?_) (fun _ => ?_)))
          all_goals first
            | (exfalso; omega)
            | (refine rt ⟨?_, rfl⟩; simp [*])
    · simp at hkl
  · have h0 : legalB l i = false := by simp only [legalB, hi, decide_false, Bool.false_and]
    rw [h0]
    rcases hv.cases with ⟨b, off, c, rfl, hlen, hr⟩ | ⟨rfl, rfl⟩
    all_goals
      refine C.go hT Try.func37 Try.ntmps37 ?_
      (repeat (first | refine st ?_ | refine nl ?_ | refine sq ?_ | refine rg ?_ | refine bl ?_ | refine sk ?_ | refine bk ?_ | refine bx ?_ | refine al ?_ | refine so ?_ | refine mk ?_ | refine ex ?_ | refine lb ?_ | refine cT ?_ | refine cF ?_ | refine sg ?_ | refine sp ?_ | refine su ?_))
      refine gD (fun h0 => ?_) (fun h0 => ?_)
      · (repeat (first | refine st ?_ | refine nl ?_ | refine sq ?_ | refine rg ?_ | refine bl ?_ | refine sk ?_ | refine bk ?_ | refine bx ?_ | refine al ?_ | refine so ?_ | refine mk ?_ | refine ex ?_ | refine lb ?_ | refine cT ?_ | refine cF ?_ | refine sg ?_ | refine sp ?_ | refine su ?_))
        exact rt ⟨rfl, rfl⟩
      · (repeat (first | refine st ?_ | refine nl ?_ | refine sq ?_ | refine rg ?_ | refine bl ?_ | refine sk ?_ | refine bk ?_ | refine bx ?_ | refine al ?_ | refine so ?_ | refine mk ?_ | refine ex ?_ | refine lb ?_ | refine cT ?_ | refine cF ?_ | refine sg ?_ | refine sp ?_ | refine su ?_))
        refine cD (fun h1 => ?_) (fun h1 => ?_)
        · (repeat (first | refine st ?_ | refine nl ?_ | refine sq ?_ | refine rg ?_ | refine bl ?_ | refine sk ?_ | refine bk ?_ | refine bx ?_ | refine al ?_ | refine so ?_ | refine mk ?_ | refine ex ?_ | refine lb ?_ | refine cT ?_ | refine cF ?_ | refine sg ?_ | refine sp ?_ | refine su ?_))
          exact rt ⟨rfl, rfl⟩
        · first | (exfalso; omega) | (exfalso; simp at h1 h0 hi; omega)
/-- how a line is judged, by its room and what it stretches and shrinks -/
structure Jud where
  bad : Int
  cls : Int
  fits : Bool
def judD (l : List Item) (x : Par) (a1 b : Nat) : Jud :=
  if x.w - mW l a1 b < 0 then ⟨badD (-(x.w - mW l a1 b)) (mZ l a1 b), classD (-(x.w - mW l a1 b)) (mZ l a1 b) true, decide ((b : Int) ≤ foA l a1) && decide (badD (-(x.w - mW l a1 b)) (mZ l a1 b) ≤ x.tol) && decide (-(x.w - mW l a1 b) ≤ mZ l a1 b)⟩
  else ⟨badD (x.w - mW l a1 b) (mY l a1 b), classD (x.w - mW l a1 b) (mY l a1 b) false, decide ((b : Int) ≤ foA l a1) && decide (badD (x.w - mW l a1 b) (mY l a1 b) ≤ x.tol)⟩
def judV (l : List Item) (x : Par) (a1 b : Nat) : Value := lineV (mW l a1 b) (mY l a1 b) (mZ l a1 b) (judD l x a1 b).bad (judD l x a1 b).cls (judD l x a1 b).fits
theorem judge_C (F : Mem) (p : Value) (l : List Item) (a : Int) (a1 b : Nat) (x : Par) (hp : RPara F p l) (hg : goodL l = true) (ha : a + 1 = a1) (ha1 : a1 ≤ l.length) (hb : b < l.length) (hx : x.good = true) : C0 Try.prog 38 [p, .int .i64 a, .int .i64 b, x.v] F (judV l x a1 b) := by
  have hM : ∀ F', F.le F' → C0 Try.prog 44 [p, .int .i64 a, .int .i64 b] F' (lineV (mW l a1 b) (mY l a1 b) (mZ l a1 b) 0 0 false) := fun F' hl => measure_C F' p l a a1 b (hp.le hl) hg ha ha1 hb
  obtain ⟨pb, po, lb, lo, lc, wb, wo, wc, yb, yo, yc, zb, zo, zc, bb, bo, bc, fb, fo, fc, rfl, ⟨h1, h2, h3, h4, h5, h6⟩, h7, h8⟩ := hp
  have hlen := good_len hg
  obtain ⟨_, _, _, _, q1⟩ := h8 a1 ha1
  have hfr : fromA l a1 b ≤ b := Nat.min_le_right _ _
  have s1 := sums_bd hg b (by omega)
  have s2 := sums_bd hg (fromA l a1 b) (by omega)
  have hok := good_ok hg hb
  simp only [Item.ok, decide_eq_true_eq] at hok
  have hw : -(1073741824 * 2000) ≤ mW l a1 b ∧ mW l a1 b ≤ 1073741824 * 2000 := by
    unfold mW
    split <;> omega
  have hgx := hx
  simp only [Par.good, decide_eq_true_eq] at hgx
  have q1' : look F ⟨fb, fo + (a + 1).toNat * 1, none⟩ = some (.int .i64 (foA l a1 : Int)) := by rw [ha]; exact q1
  unfold judV judD
  clear s1 s2 hok hfr h7 h8 hg h1 h2 h3 h4 h5
  generalize mW l a1 b = w at *
  generalize mY l a1 b = y at *
  generalize mZ l a1 b = z at *
  generalize foA l a1 = fo' at *
  obtain ⟨xw, tol, line, twice, odd⟩ := x
  simp only [Par.v] at hgx hx ⊢
  refine C.go hT Try.func38 Try.ntmps38 ?_
  (repeat (first | refine st ?_ | refine nl ?_ | refine sq ?_ | refine rg ?_ | refine bl ?_ | refine sk ?_ | refine bk ?_ | refine bx ?_ | refine al ?_ | refine so ?_ | refine mk ?_ | refine ex ?_ | refine lb ?_ | refine cT ?_ | refine cF ?_ | refine sg ?_ | refine sp ?_ | refine su ?_ | refine cl ?_ (h := by exact fun _ _ hl => hM _ hl)))
  refine dr 9 [7, 8, 9] [0, 1, 2, 3, 4, 5, 6, 7, 8] ?_
  (repeat (first | refine dt ?_ | refine dg ?_ | refine dp ?_ | refine du ?_ | refine dq ?_ | refine dqg ?_ | refine dqp ?_ | refine dqu ?_ | refine dso ?_ | refine dal ?_ | refine dmk ?_ | refine dbx ?_ | refine dv ?_ | refine dpe ?_ | refine dn ?_ | refine st ?_ | refine nl ?_ | refine sq ?_ | refine rg ?_ | refine bl ?_ | refine sk ?_ | refine bk ?_ | refine bx ?_ | refine al ?_ | refine so ?_ | refine mk ?_ | refine ex ?_ | refine lb ?_ | refine cT ?_ | refine cF ?_ | refine sg ?_ | refine sp ?_ | refine su ?_))
  refine cD (fun hs => ?_) (fun hs => ?_)
  · rw [if_pos hs]
    (repeat (first | refine st ?_ | refine nl ?_ | refine sq ?_ | refine rg ?_ | refine bl ?_ | refine sk ?_ | refine bk ?_ | refine bx ?_ | refine al ?_ | refine so ?_ | refine mk ?_ | refine ex ?_ | refine lb ?_ | refine cT ?_ | refine cF ?_ | refine sg ?_ | refine sp ?_ | refine su ?_))
    refine dr 6 [7, 8, 9] [0, 1, 2, 3, 4, 5] ?_
    (repeat (first | refine dt ?_ | refine dg ?_ | refine dp ?_ | refine du ?_ | refine dq ?_ | refine dqg ?_ | refine dqp ?_ | refine dqu ?_ | refine dso ?_ | refine dal ?_ | refine dmk ?_ | refine dbx ?_ | refine dv ?_ | refine dpe ?_ | refine dn ?_ | refine st ?_ | refine nl ?_ | refine sq ?_ | refine rg ?_ | refine bl ?_ | refine sk ?_ | refine bk ?_ | refine bx ?_ | refine al ?_ | refine so ?_ | refine mk ?_ | refine ex ?_ | refine lb ?_ | refine cT ?_ | refine cF ?_ | refine sg ?_ | refine sp ?_ | refine su ?_))
    (repeat' (first | refine st ?_ | refine nl ?_ | refine sq ?_ | refine rg ?_ | refine bl ?_ | refine sk ?_ | refine bk ?_ | refine bx ?_ | refine al ?_ | refine so ?_ | refine mk ?_ | refine ex ?_ | refine lb ?_ | refine cT ?_ | refine cF ?_ | refine sg ?_ | refine sp ?_ | refine su ?_ | refine gD (fun _ => ?_) (fun _ => ?_) | refine gN (fun _ => ?_) (fun _ => ?_) | refine cD (fun _ => ?_) (fun _ => ?_) | refine cN (fun _ => ?_) (fun _ => ?_) | refine cl ?_ (h := by exact fun _ _ _ => Bad_C _ _ _) | refine cl ?_ (h := by exact fun _ _ _ => Class_C _ _ _ _)))
    all_goals first | (exfalso; omega) | (refine rt ⟨?_, rfl⟩; simp [lineV, cellsL, *]; try rfl)
  · rw [if_neg hs]
    (repeat' (first | refine st ?_ | refine nl ?_ | refine sq ?_ | refine rg ?_ | refine bl ?_ | refine sk ?_ | refine bk ?_ | refine bx ?_ | refine al ?_ | refine so ?_ | refine mk ?_ | refine ex ?_ | refine lb ?_ | refine cT ?_ | refine cF ?_ | refine sg ?_ | refine sp ?_ | refine su ?_ | refine gD (fun _ => ?_) (fun _ => ?_) | refine gN (fun _ => ?_) (fun _ => ?_) | refine cD (fun _ => ?_) (fun _ => ?_) | refine cN (fun _ => ?_) (fun _ => ?_) | refine cl ?_ (h := by exact fun _ _ _ => Bad_C _ _ _) | refine cl ?_ (h := by exact fun _ _ _ => Class_C _ _ _ _)))
    all_goals first | (exfalso; omega) | (refine rt ⟨?_, rfl⟩; simp [lineV, cellsL, *]; try rfl)

end Go.Proofs.Ytbeblgjibfoanaa.Am
