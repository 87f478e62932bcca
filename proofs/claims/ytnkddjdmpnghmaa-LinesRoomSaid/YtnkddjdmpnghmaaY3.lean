/- Rules for walking Go functions, and contracts proved by them (U8, U9, U11, U12a, U13, U14, V2, V3, V4, V6, V7, S1, T1, T2, T3, T4, N8, N9, N10, N12, N13, N14). -/
import Derived.Test.YtnkddjdmpnghmaaY2
import Derived.Below
import Derived.Laws.OwnMore
import Derived.KernelRfl
import Derived.Laws.Bits
import Derived.Laws.Strings
import Derived.Laws.Entries
import Derived.IntWalk
import Derived.Laws.Cells
import Derived.Laws.Append
import Derived.Laws.BytesString
import Derived.Laws.BytesArg
import Derived.Tactics
import Derived.Orders
import Derived.OrdersHeld
import Derived.Test.YtnkddjdmpnghmaaChecked
import Derived.Scope
import Derived.Laws.BitsLemmas
import Derived.Laws.Small
import Derived.Laws.Concat
import Derived.ChangeKeysEq
import Derived.ChangeArms
import Derived.DataReads
import Derived.WideShapes
import Derived.SizedLaws
import Derived.OpenShut
namespace Go.Proofs.Ytnkddjdmpnghmaa.Am
set_option linter.unusedSimpArgs false
set_option linter.unusedVariables false
set_option maxRecDepth 100000
set_option maxHeartbeats 4000000
open Go Go.RowKit
/-- a pointer to what begins with items -/
def RHead (F : Mem) (p : Value) (l : List Item) : Prop := ∃ pb po v, p = .pointer (some ⟨pb, po, none⟩) ∧ look F ⟨pb, po + 0, none⟩ = some v ∧ RItems F v l
theorem RHead.le {F F' : Mem} {p : Value} {l : List Item} (h : RHead F p l) (hl : F.le F') : RHead F' p l := by
  obtain ⟨pb, po, v, h1, h2, h3⟩ := h
  exact ⟨pb, po, v, h1, hl _ _ h2, h3.le hl⟩
theorem RPara.head {F : Mem} {p : Value} {l : List Item} (h : RPara F p l) : RHead F p l := by
  obtain ⟨pb, po, lb, lo, lc, wb, wo, wc, yb, yo, yc, zb, zo, zc, bb, bo, bc, fb, fo, fc, h0, ⟨h1, h2, h3, h4, h5, h6⟩, h7, h8⟩ := h
  exact ⟨pb, po, _, h0, h1, h7⟩
theorem legal_C (F : Mem) (p : Value) (l : List Item) (i : Int) (hp : RHead F p l) : C0 Try.prog 47 [p, .int .i64 i] F (.bool (legalB l i)) := by
  obtain ⟨pb, po, v, rfl, h1, hv⟩ := hp
  by_cases hi : 0 ≤ i ∧ i < l.length
  · obtain ⟨k, rfl⟩ := Int.eq_ofNat_of_zero_le hi.1
    have hkl : k < l.length := by omega
    rcases hv.cases with ⟨b, off, c, rfl, hlen, hr⟩ | ⟨rfl, rfl⟩
    · obtain ⟨r0, r1, r2, r3, r4, r5, g, hg, hri⟩ := hr k hkl
      have p0 : 0 < k → look F ⟨b, off + ((k : Int) - 1).toNat * 11 + 0, none⟩ = some (.int .i64 (at_ l ((k : Int) - 1).toNat).kind) := fun h => (hr _ (by omega)).1
      have hL : legalB l (k : Int) = ((decide ((at_ l k).kind = 2) && decide ((0 : Int) < (k : Int)) && decide ((at_ l ((k : Int) - 1).toNat).kind = 1)) || (decide ((at_ l k).kind = 3) && decide ((at_ l k).cost < 10000))) := by simp [legalB, hkl]
      rw [hL]
      clear hr hv hL
      have hN : rdN F [] ⟨b, off + k * 11, none⟩ 11 = some ((at_ l k).cells g) := hg
      generalize at_ l k = x at *
      generalize at_ l ((k : Int) - 1).toNat = y at *
      rcases hri with (⟨gb, go, gc, rfl, _, _⟩ | ⟨rfl, _⟩) | ⟨gb, go, gsp, rfl, _⟩
      all_goals refine C.go hT Try.func47 Try.ntmps47 ?_
      all_goals
        by_cases hk0 : 0 < k
        · have p := p0 hk0
          (repeat' (first | refine st ?_ | refine nl ?_ | refine sq ?_ | refine rg ?_ | refine bl ?_ | refine sk ?_ | refine bk ?_ | refine bx ?_ | refine al ?_ | refine so ?_ | refine mk ?_ | refine ex ?_ | refine lb ?_ | refine cT ?_ | refine cF ?_ | refine sg ?_ | refine sp ?_ | refine su ?_ | refine gD (fun _ => ?_) (fun _ => ?_) | refine gN (fun _ => ?_) (fun _ => ?_) | refine cD (fun _ => ?_) (fun _ => ?_) | refine cN (fun _ => ?_) (fun _ => ?_)))
          all_goals first
            | (exfalso; omega)
            | (refine rt ⟨?_, rfl⟩; simp [*])
        · (repeat' (first | refine st ?_ | refine nl ?_ | refine sq ?_ | refine rg ?_ | refine bl ?_ | refine sk ?_ | refine bk ?_ | refine bx ?_ | refine al ?_ | refine so ?_ | refine mk ?_ | refine ex ?_ | refine lb ?_ | refine cT ?_ | refine cF ?_ | refine sg ?_ | refine sp ?_ | refine su ?_ | refine gD (fun _ => ?_) (fun _ => ?_) | refine gN (fun _ => ?_) (fun _ => ?_) | refine cD (fun _ => ?_) (fun _ => ?_) | refine cN (fun _ => ?_) (fun _ => ?_)))
          all_goals first
            | (exfalso; omega)
            | (refine rt ⟨?_, rfl⟩; simp [*])
    · simp at hkl
  · have h0 : legalB l i = false := by simp only [legalB, hi, decide_false, Bool.false_and]
    rw [h0]
    rcases hv.cases with ⟨b, off, c, rfl, hlen, hr⟩ | ⟨rfl, rfl⟩
    all_goals
      refine C.go hT Try.func47 Try.ntmps47 ?_
      (repeat (first | refine st ?_ | refine nl ?_ | refine sq ?_ | refine rg ?_ | refine bl ?_ | refine sk ?_ | refine bk ?_ | refine bx ?_ | refine al ?_ | refine so ?_ | refine mk ?_ | refine ex ?_ | refine lb ?_ | refine cT ?_ | refine cF ?_ | refine sg ?_ | refine sp ?_ | refine su ?_))
      refine gD (fun h0 => ?_) (fun h0 => ?_)
      · (repeat (first | refine st ?_ | refine nl ?_ | refine sq ?_ | refine rg ?_ | refine bl ?_ | refine sk ?_ | refine bk ?_ | refine bx ?_ | refine al ?_ | refine so ?_ | refine mk ?_ | refine ex ?_ | refine lb ?_ | refine cT ?_ | refine cF ?_ | refine sg ?_ | refine sp ?_ | refine su ?_))
        exact rt ⟨rfl, rfl⟩
      · (repeat (first | refine st ?_ | refine nl ?_ | refine sq ?_ | refine rg ?_ | refine bl ?_ | refine sk ?_ | refine bk ?_ | refine bx ?_ | refine al ?_ | refine so ?_ | refine mk ?_ | refine ex ?_ | refine lb ?_ | refine cT ?_ | refine cF ?_ | refine sg ?_ | refine sp ?_ | refine su ?_))
        refine cD (fun h1 => ?_) (fun h1 => ?_)
        · (repeat (first | refine st ?_ | refine nl ?_ | refine sq ?_ | refine rg ?_ | refine bl ?_ | refine sk ?_ | refine bk ?_ | refine bx ?_ | refine al ?_ | refine so ?_ | refine mk ?_ | refine ex ?_ | refine lb ?_ | refine cT ?_ | refine cF ?_ | refine sg ?_ | refine sp ?_ | refine su ?_))
          exact rt ⟨rfl, rfl⟩
        · first | (exfalso; omega) | (exfalso; simp at h1 h0 hi; omega)
/-- how a line is judged, by its room and what it stretches and shrinks -/
structure Jud where
  bad : Int
  cls : Int
  fits : Bool
def judD (l : List Item) (x : Par) (a1 b : Nat) : Jud :=
  if x.w - mW l a1 b < 0 then ⟨badD (-(x.w - mW l a1 b)) (mZ l a1 b), classD (-(x.w - mW l a1 b)) (mZ l a1 b) true, decide ((b : Int) ≤ foA l a1) && decide (badD (-(x.w - mW l a1 b)) (mZ l a1 b) ≤ x.tol) && decide (-(x.w - mW l a1 b) ≤ mZ l a1 b)⟩
  else ⟨badD (x.w - mW l a1 b) (mY l a1 b), classD (x.w - mW l a1 b) (mY l a1 b) false, decide ((b : Int) ≤ foA l a1) && decide (badD (x.w - mW l a1 b) (mY l a1 b) ≤ x.tol)⟩
def judV (l : List Item) (x : Par) (a1 b : Nat) : Value := lineV (mW l a1 b) (mY l a1 b) (mZ l a1 b) (judD l x a1 b).bad (judD l x a1 b).cls (judD l x a1 b).fits
theorem judge_C (F : Mem) (p : Value) (l : List Item) (a : Int) (a1 b : Nat) (x : Par) (hp : RPara F p l) (hg : goodL l = true) (ha : a + 1 = a1) (ha1 : a1 ≤ l.length) (hb : b < l.length) (hx : x.good = true) : C0 Try.prog 56 [p, .int .i64 a, .int .i64 b, x.v] F (judV l x a1 b) := by
  have hM : ∀ F', F.le F' → C0 Try.prog 38 [p, .int .i64 a, .int .i64 b] F' (lineV (mW l a1 b) (mY l a1 b) (mZ l a1 b) 0 0 false) := fun F' hl => measure_C F' p l a a1 b (hp.le hl) hg ha ha1 hb
  obtain ⟨pb, po, lb, lo, lc, wb, wo, wc, yb, yo, yc, zb, zo, zc, bb, bo, bc, fb, fo, fc, rfl, ⟨h1, h2, h3, h4, h5, h6⟩, h7, h8⟩ := hp
  have hlen := good_len hg
  obtain ⟨_, _, _, _, q1⟩ := h8 a1 ha1
  have hfr : fromA l a1 b ≤ b := Nat.min_le_right _ _
  have s1 := sums_bd hg b (by omega)
  have s2 := sums_bd hg (fromA l a1 b) (by omega)
  have hok := good_ok hg hb
  simp only [Item.ok, decide_eq_true_eq] at hok
  have hw : -(1073741824 * 2000) ≤ mW l a1 b ∧ mW l a1 b ≤ 1073741824 * 2000 := by
    unfold mW
    split <;> omega
  have hgx := hx
  simp only [Par.good, decide_eq_true_eq] at hgx
  have q1' : look F ⟨fb, fo + (a + 1).toNat * 1, none⟩ = some (.int .i64 (foA l a1 : Int)) := by rw [ha]; exact q1
  unfold judV judD
  clear s1 s2 hok hfr h7 h8 hg h1 h2 h3 h4 h5
  generalize mW l a1 b = w at *
  generalize mY l a1 b = y at *
  generalize mZ l a1 b = z at *
  generalize foA l a1 = fo' at *
  obtain ⟨xw, tol, line, twice, odd⟩ := x
  simp only [Par.v] at hgx hx ⊢
  refine C.go hT Try.func56 Try.ntmps56 ?_
  (repeat (first | refine st ?_ | refine nl ?_ | refine sq ?_ | refine rg ?_ | refine bl ?_ | refine sk ?_ | refine bk ?_ | refine bx ?_ | refine al ?_ | refine so ?_ | refine mk ?_ | refine ex ?_ | refine lb ?_ | refine cT ?_ | refine cF ?_ | refine sg ?_ | refine sp ?_ | refine su ?_ | refine cl ?_ (h := by exact fun _ _ hl => hM _ hl)))
  refine dr 9 [7, 8, 9] [0, 1, 2, 3, 4, 5, 6, 7, 8] ?_
  (repeat (first | refine dt ?_ | refine dg ?_ | refine dp ?_ | refine du ?_ | refine dq ?_ | refine dqg ?_ | refine dqp ?_ | refine dqu ?_ | refine dso ?_ | refine dal ?_ | refine dmk ?_ | refine dbx ?_ | refine dv ?_ | refine dpe ?_ | refine dn ?_ | refine st ?_ | refine nl ?_ | refine sq ?_ | refine rg ?_ | refine bl ?_ | refine sk ?_ | refine bk ?_ | refine bx ?_ | refine al ?_ | refine so ?_ | refine mk ?_ | refine ex ?_ | refine lb ?_ | refine cT ?_ | refine cF ?_ | refine sg ?_ | refine sp ?_ | refine su ?_))
  refine cD (fun hs => ?_) (fun hs => ?_)
  · rw [if_pos hs]
    (repeat (first | refine st ?_ | refine nl ?_ | refine sq ?_ | refine rg ?_ | refine bl ?_ | refine sk ?_ | refine bk ?_ | refine bx ?_ | refine al ?_ | refine so ?_ | refine mk ?_ | refine ex ?_ | refine lb ?_ | refine cT ?_ | refine cF ?_ | refine sg ?_ | refine sp ?_ | refine su ?_))
    refine dr 6 [7, 8, 9] [0, 1, 2, 3, 4, 5] ?_
    (repeat (first | refine dt ?_ | refine dg ?_ | refine dp ?_ | refine du ?_ | refine dq ?_ | refine dqg ?_ | refine dqp ?_ | refine dqu ?_ | refine dso ?_ | refine dal ?_ | refine dmk ?_ | refine dbx ?_ | refine dv ?_ | refine dpe ?_ | refine dn ?_ | refine st ?_ | refine nl ?_ | refine sq ?_ | refine rg ?_ | refine bl ?_ | refine sk ?_ | refine bk ?_ | refine bx ?_ | refine al ?_ | refine so ?_ | refine mk ?_ | refine ex ?_ | refine lb ?_ | refine cT ?_ | refine cF ?_ | refine sg ?_ | refine sp ?_ | refine su ?_))
    (repeat' (first | refine st ?_ | refine nl ?_ | refine sq ?_ | refine rg ?_ | refine bl ?_ | refine sk ?_ | refine bk ?_ | refine bx ?_ | refine al ?_ | refine so ?_ | refine mk ?_ | refine ex ?_ | refine lb ?_ | refine cT ?_ | refine cF ?_ | refine sg ?_ | refine sp ?_ | refine su ?_ | refine gD (fun _ => ?_) (fun _ => ?_) | refine gN (fun _ => ?_) (fun _ => ?_) | refine cD (fun _ => ?_) (fun _ => ?_) | refine cN (fun _ => ?_) (fun _ => ?_) | refine cl ?_ (h := by exact fun _ _ _ => Bad_C _ _ _) | refine cl ?_ (h := by exact fun _ _ _ => Class_C _ _ _ _)))
    all_goals first | (exfalso; omega) | (refine rt ⟨?_, rfl⟩; simp [lineV, cellsL, *]; try rfl)
  · rw [if_neg hs]
    (repeat' (first | refine st ?_ | refine nl ?_ | refine sq ?_ | refine rg ?_ | refine bl ?_ | refine sk ?_ | refine bk ?_ | refine bx ?_ | refine al ?_ | refine so ?_ | refine mk ?_ | refine ex ?_ | refine lb ?_ | refine cT ?_ | refine cF ?_ | refine sg ?_ | refine sp ?_ | refine su ?_ | refine gD (fun _ => ?_) (fun _ => ?_) | refine gN (fun _ => ?_) (fun _ => ?_) | refine cD (fun _ => ?_) (fun _ => ?_) | refine cN (fun _ => ?_) (fun _ => ?_) | refine cl ?_ (h := by exact fun _ _ _ => Bad_C _ _ _) | refine cl ?_ (h := by exact fun _ _ _ => Class_C _ _ _ _)))
    all_goals first | (exfalso; omega) | (refine rt ⟨?_, rfl⟩; simp [lineV, cellsL, *]; try rfl)
end Go.Proofs.Ytnkddjdmpnghmaa.Am
namespace Go.Proofs.Ytnkddjdmpnghmaa.Am
set_option linter.unusedSimpArgs false
set_option linter.unusedVariables false
set_option maxRecDepth 100000
set_option maxHeartbeats 4000000
open Go Go.RowKit
theorem RItems.forms {F : Mem} {v : Value} {l : List Item} (h : RItems F v l) : (∃ b off c, v = .slice (some ⟨b, off, none⟩) l.length c) ∨ (v = .slice none 0 0 ∧ l = []) := by
  rcases h with ⟨b, off, c, h1, _⟩ | h
  · exact .inl ⟨b, off, c, h1⟩
  · exact .inr h
theorem Legal_C (F : Mem) (v : Value) (l : List Item) (i : Int) (hv : RItems F v l) : C0 Try.prog 28 [v, .int .i64 i] F (.bool (goodL l && legalB l i)) := by
  rcases hv.forms with ⟨b, off, c, rfl⟩ | ⟨rfl, rfl⟩
  · refine C.go hT Try.func28 Try.ntmps28 ?_
    (repeat (first | refine st ?_ | refine nl ?_ | refine sq ?_ | refine rg ?_ | refine bl ?_ | refine sk ?_ | refine bk ?_ | refine bx ?_ | refine al ?_ | refine so ?_ | refine mk ?_ | refine ex ?_ | refine lb ?_ | refine cT ?_ | refine cF ?_ | refine sg ?_ | refine sp ?_ | refine su ?_ | refine cl ?_ (h := by exact fun _ _ hl => IGood_C _ _ l (hv.le hl))))
    refine gB (fun h0 => ?_) (fun h0 => ?_)
    · (repeat (first | refine st ?_ | refine nl ?_ | refine sq ?_ | refine rg ?_ | refine bl ?_ | refine sk ?_ | refine bk ?_ | refine bx ?_ | refine al ?_ | refine so ?_ | refine mk ?_ | refine ex ?_ | refine lb ?_ | refine cT ?_ | refine cF ?_ | refine sg ?_ | refine sp ?_ | refine su ?_))
      refine JL.stepG rfl rfl rfl (Go1.box (t := 10) rfl rfl (by exact Nat.le_of_ble_eq_true rfl) rfl rfl rfl rfl rfl ?_)
      (repeat (first | refine st ?_ | refine nl ?_ | refine sq ?_ | refine rg ?_ | refine bl ?_ | refine sk ?_ | refine bk ?_ | refine bx ?_ | refine al ?_ | refine so ?_ | refine mk ?_ | refine ex ?_ | refine lb ?_ | refine cT ?_ | refine cF ?_ | refine sg ?_ | refine sp ?_ | refine su ?_))
      refine clg ?_ (h := by
        intro ι hV hl
        have hk := hV.look (t := 10) rfl (o := 0) (v := .slice (some ⟨b, off, none⟩) l.length c) rfl
        exact legal_C _ (.pointer (some ⟨ι 10, 0, none⟩)) l i ⟨_, 0, _, rfl, hk, hv.le hl⟩)
      (repeat (first | refine st ?_ | refine nl ?_ | refine sq ?_ | refine rg ?_ | refine bl ?_ | refine sk ?_ | refine bk ?_ | refine bx ?_ | refine al ?_ | refine so ?_ | refine mk ?_ | refine ex ?_ | refine lb ?_ | refine cT ?_ | refine cF ?_ | refine sg ?_ | refine sp ?_ | refine su ?_))
      refine rt ⟨?_, rfl⟩
      simp [h0]
    · (repeat (first | refine st ?_ | refine nl ?_ | refine sq ?_ | refine rg ?_ | refine bl ?_ | refine sk ?_ | refine bk ?_ | refine bx ?_ | refine al ?_ | refine so ?_ | refine mk ?_ | refine ex ?_ | refine lb ?_ | refine cT ?_ | refine cF ?_ | refine sg ?_ | refine sp ?_ | refine su ?_))
      refine rt ⟨?_, rfl⟩
      simp [h0]
  · refine C.go hT Try.func28 Try.ntmps28 ?_
    (repeat (first | refine st ?_ | refine nl ?_ | refine sq ?_ | refine rg ?_ | refine bl ?_ | refine sk ?_ | refine bk ?_ | refine bx ?_ | refine al ?_ | refine so ?_ | refine mk ?_ | refine ex ?_ | refine lb ?_ | refine cT ?_ | refine cF ?_ | refine sg ?_ | refine sp ?_ | refine su ?_ | refine cl ?_ (h := by exact fun _ _ hl => IGood_C _ _ .nil (hv.le hl))))
    exact rt ⟨rfl, rfl⟩
end Go.Proofs.Ytnkddjdmpnghmaa.Am
namespace Go.Proofs.Ytnkddjdmpnghmaa.Am
set_option linter.unusedSimpArgs false
set_option linter.unusedVariables false
set_option maxRecDepth 100000
set_option maxHeartbeats 4000000
open Go Go.RowKit
theorem legal_lt {l : List Item} {i : Int} (h : legalB l i = true) : 0 ≤ i ∧ i < l.length := by
  simp only [legalB, Bool.and_eq_true, decide_eq_true_eq] at h
  exact h.1
theorem class0 : classD 0 0 false = 1 := by decide
theorem demD_bd (l : List Item) (x : Par) (bad cls prev a b : Int) : -100000000 ≤ demD l x bad cls prev a b ∧ demD l x bad cls prev a b ≤ 223000000 := by
  have hl := lineD_bd x.line bad (costA l b)
  have hm := moreD_bd prev cls (flagA l a) (flagA l b) x
  unfold demD
  omega
/-- of a line that may be: what it measures -/
def lineB (l : List Item) (a b : Int) : Bool := goodL l && legalB l b && decide (a < b) && (decide (a = -1) || legalB l a)
def measD (l : List Item) (a b : Int) : Int × Int × Int := if lineB l a b = true then (mW l (a + 1).toNat b.toNat, mY l (a + 1).toNat b.toNat, mZ l (a + 1).toNat b.toNat) else (0, 0, 0)
theorem lineB_no {l : List Item} {a b : Int} (h : ¬ lineB l a b = true) : measD l a b = (0, 0, 0) := by simp [measD, h]
theorem lineB_iff {l : List Item} {a b : Int} : lineB l a b = true ↔ ((goodL l && legalB l b) = true ∧ a < b ∧ (a = -1 ∨ (goodL l && legalB l a) = true)) := by
  simp only [lineB, Bool.and_eq_true, Bool.or_eq_true, decide_eq_true_eq]
  constructor
  · rintro ⟨⟨⟨h1, h2⟩, h3⟩, h4⟩; exact ⟨⟨h1, h2⟩, h3, h4.imp id fun h => ⟨h1, h⟩⟩
  · rintro ⟨⟨h1, h2⟩, h3, h4⟩; exact ⟨⟨⟨h1, h2⟩, h3⟩, h4.imp id fun h => h.2⟩
theorem lineB_facts {l : List Item} {a b : Int} (h : lineB l a b = true) : goodL l = true ∧ 0 ≤ b ∧ b < l.length ∧ -1 ≤ a ∧ a < b := by
  simp only [lineB, Bool.and_eq_true, Bool.or_eq_true, decide_eq_true_eq] at h
  obtain ⟨⟨⟨h1, h2⟩, h3⟩, h4⟩ := h
  have := legal_lt h2
  rcases h4 with h4 | h4
  · exact ⟨h1, by omega, by omega, by omega, h3⟩
  · have := legal_lt h4
    exact ⟨h1, by omega, by omega, by omega, h3⟩
theorem not_of {b : Bool} (h : (!b) = true) : ¬ b = true := by simpa using h
theorem of_not {b : Bool} (h : (!b) = false) : b = true := by simpa using h
theorem Measure_C (F : Mem) (v : Value) (l : List Item) (a b : Int) (hv : RItems F v l) : C0 Try.prog 19 [v, .int .i64 a, .int .i64 b] F (.tuple #[.int .i64 (measD l a b).1, .int .i64 (measD l a b).2.1, .int .i64 (measD l a b).2.2]) := by
  rcases hv.forms with ⟨vb, vo, vc, rfl⟩ | ⟨rfl, rfl⟩
  ·
    refine C.go hT Try.func19 Try.ntmps19 ?_
    refine sq ?_
    refine rg ?_
    iterate 3 (refine st (h := O) ?_)
    refine nl ?_
    iterate 2 (refine sq ?_)
    refine rg ?_
    iterate 2 (refine st (h := O) ?_)
    refine cl (h := by exact fun ι hV hl => Legal_C _ _ l _ (hv.le hl)) ?_
    iterate 2 (refine st (h := O) ?_)
    refine gB (fun g14 => ?_) (fun g14 => ?_)
    ·refine sp ?_
     iterate 2 (refine sp ?_)
     iterate 2 (refine st (h := O) ?_)
     iterate 3 (refine sp ?_)
     iterate 4 (refine su ?_)
     refine sp ?_
     refine st (h := O) ?_
     refine nl ?_
     refine cT ?_
     refine sq ?_
     refine rg ?_
     iterate 3 (refine st (h := O) ?_)
     refine nl ?_
     refine rt ⟨?_, rfl⟩
     rw [lineB_no (fun h => not_of g14 (lineB_iff.1 h).1)]
    ·refine sg (h := O) ?_
     iterate 2 (refine sg (h := O) ?_)
     iterate 2 (refine st (h := O) ?_)
     refine gD (fun g19 => ?_) (fun g19 => ?_)
     ·refine sp ?_
      iterate 2 (refine sp ?_)
      iterate 4 (refine su ?_)
      refine sp ?_
      refine st (h := O) ?_
      refine nl ?_
      refine cT ?_
      refine sq ?_
      refine rg ?_
      iterate 3 (refine st (h := O) ?_)
      refine nl ?_
      refine rt ⟨?_, rfl⟩
      rw [lineB_no (fun h => by have := (lineB_iff.1 h).2.1; omega)]
     ·refine sg (h := O) ?_
      iterate 2 (refine sg (h := O) ?_)
      refine gN (fun g22 => ?_) (fun g22 => ?_)
      ·refine sg (h := O) ?_
       refine sg (h := O) ?_
       refine clg (h := by exact fun ι hV hl => Legal_C _ _ l _ (hv.le hl)) ?_
       iterate 2 (refine sg (h := O) ?_)
       refine st (h := O) ?_
       refine nl ?_
       refine cB (fun c0 => ?_) (fun c0 => ?_)
       ·refine sq ?_
        refine rg ?_
        iterate 3 (refine st (h := O) ?_)
        refine nl ?_
        refine rt ⟨?_, rfl⟩
        rw [lineB_no (fun h => by rcases (lineB_iff.1 h).2.2 with h | h; · exact absurd h (by omega)
                                  · exact not_of c0 h)]
       ·have hB : lineB l a b = true := lineB_iff.2 ⟨of_not g14, by omega, by first | exact .inr (of_not c0) | exact .inl (by omega)⟩
        obtain ⟨hgl, hb0, hbl, ha0, hab⟩ := lineB_facts hB
        obtain ⟨a1, ha1⟩ := Int.eq_ofNat_of_zero_le (show (0 : Int) ≤ a + 1 by omega)
        obtain ⟨b1, rfl⟩ := Int.eq_ofNat_of_zero_le hb0
        refine sk ?_
        refine sq ?_
        refine rg ?_
        refine st (h := O) ?_
        refine clC (h := by exact fun ι hV hl => ready_C _ (.slice (some ⟨vb, vo, none⟩) l.length vc) l (hv.le hl) hgl) ?_
        intro p Y hQ hpv hpp hN
        have hp := hQ _ (hv.le hN.le) hN.rows
        obtain ⟨pb, po, lb, lo, lc, wb, wo, wc, yb, yo, yc, zb, zo, zc, bb, bo, bc, fb, fo, fc, rfl, hp2⟩ := id hp
        clear hp2
        iterate 2 (refine st (h := O) ?_)
        refine cl (h := by exact fun ι hV hl => measure_C _ _ l a a1 b1 (hp.le hl) hgl ha1 (by omega) (by omega)) ?_
        refine al ?_
        refine so ?_
        refine nl ?_
        refine sq ?_
        refine dr 9 [9] [0, 1, 2, 3, 4, 5, 6, 7, 8] ?_
        refine dt (hv := by exact sdFA) ?_
        refine dt (hv := by exact sdL) ?_
        refine dt (hv := by exact sdFA) ?_
        refine dt (hv := by exact sdL) ?_
        refine dt (hv := by exact sdFA) ?_
        refine dt (hv := by exact sdL) ?_
        iterate 3 (refine dt (hv := by exact O) ?_)
        refine dn ?_
        refine J.dropF ?_
        refine rt ⟨?_, rfl⟩
        simp only [measD, if_pos hB, ha1, Int.toNat_natCast]
      ·have hB : lineB l a b = true := lineB_iff.2 ⟨of_not g14, by omega, by first | exact .inr (of_not c0) | exact .inl (by omega)⟩
       obtain ⟨hgl, hb0, hbl, ha0, hab⟩ := lineB_facts hB
       obtain ⟨a1, ha1⟩ := Int.eq_ofNat_of_zero_le (show (0 : Int) ≤ a + 1 by omega)
       obtain ⟨b1, rfl⟩ := Int.eq_ofNat_of_zero_le hb0
       iterate 4 (refine sp ?_)
       refine sg (h := O) ?_
       refine st (h := O) ?_
       refine nl ?_
       refine cF ?_
       refine sk ?_
       refine sq ?_
       refine rg ?_
       refine st (h := O) ?_
       refine clC (h := by exact fun ι hV hl => ready_C _ (.slice (some ⟨vb, vo, none⟩) l.length vc) l (hv.le hl) hgl) ?_
       intro p Y hQ hpv hpp hN
       have hp := hQ _ (hv.le hN.le) hN.rows
       obtain ⟨pb, po, lb, lo, lc, wb, wo, wc, yb, yo, yc, zb, zo, zc, bb, bo, bc, fb, fo, fc, rfl, hp2⟩ := id hp
       clear hp2
       iterate 2 (refine st (h := O) ?_)
       refine cl (h := by exact fun ι hV hl => measure_C _ _ l a a1 b1 (hp.le hl) hgl ha1 (by omega) (by omega)) ?_
       refine al ?_
       refine so ?_
       refine nl ?_
       refine sq ?_
       refine dr 9 [9] [0, 1, 2, 3, 4, 5, 6, 7, 8] ?_
       refine dt (hv := by exact sdFA) ?_
       refine dt (hv := by exact sdL) ?_
       refine dt (hv := by exact sdFA) ?_
       refine dt (hv := by exact sdL) ?_
       refine dt (hv := by exact sdFA) ?_
       refine dt (hv := by exact sdL) ?_
       iterate 3 (refine dt (hv := by exact O) ?_)
       refine dn ?_
       refine J.dropF ?_
       refine rt ⟨?_, rfl⟩
       simp only [measD, if_pos hB, ha1, Int.toNat_natCast]
  · have h0 : measD [] a b = (0, 0, 0) := lineB_no (fun h => by cases (lineB_facts h).1)
    rw [h0]
    refine C.go hT Try.func19 Try.ntmps19 ?_
    refine sq ?_
    refine rg ?_
    iterate 3 (refine st (h := O) ?_)
    refine nl ?_
    iterate 2 (refine sq ?_)
    refine rg ?_
    iterate 2 (refine st (h := O) ?_)
    refine cl (h := by exact fun ι hV hl => Legal_C _ _ [] _ (hv.le hl)) ?_
    iterate 2 (refine st (h := O) ?_)
    refine gB (fun g14 => ?_) (fun g14 => ?_)
    ·refine sp ?_
     iterate 2 (refine sp ?_)
     iterate 2 (refine st (h := O) ?_)
     iterate 3 (refine sp ?_)
     iterate 4 (refine su ?_)
     refine sp ?_
     refine st (h := O) ?_
     refine nl ?_
     refine cT ?_
     refine sq ?_
     refine rg ?_
     iterate 3 (refine st (h := O) ?_)
     refine nl ?_
     exact rt ⟨rfl, rfl⟩
    ·cases of_not g14
def fitsD (l : List Item) (a b : Int) (x : Par) : Bool := x.good && lineB l a b && (judD l x (a + 1).toNat b.toNat).fits
end Go.Proofs.Ytnkddjdmpnghmaa.Am
namespace Go.Proofs.Ytnkddjdmpnghmaa.Am
set_option linter.unusedSimpArgs false
set_option linter.unusedVariables false
set_option maxRecDepth 100000
set_option maxHeartbeats 4000000
open Go Go.RowKit
theorem force_last {l : List Item} (h : goodL l = true) : forceB (at_ l (l.length - 1)) = true := by
  simp only [goodL, Bool.and_eq_true, decide_eq_true_eq] at h
  simp [forceB, h.1.2, h.2]
theorem foD_last {l : List Item} (h : goodL l = true) : ∀ d i, i < l.length → l.length ≤ i + d → foD l d i < l.length ∧ forceB (at_ l (foD l d i)) = true
  | 0, i, hi, hd => by omega
  | d + 1, i, hi, hd => by
    simp only [foD]
    split
    · exact ⟨hi, by assumption⟩
    · rename_i hf
      by_cases hl : i + 1 < l.length
      · exact foD_last h d (i + 1) hl (by omega)
      · obtain rfl : i = l.length - 1 := by omega
        exact absurd (force_last h) hf
theorem foA_last {l : List Item} (h : goodL l = true) {i : Nat} (hi : i < l.length) : i ≤ foA l i ∧ foA l i < l.length ∧ forceB (at_ l (foA l i)) = true := by
  have h1 := foD_last h (l.length - i) i hi (by omega)
  exact ⟨(foD_bd l (l.length - i) i).1, h1⟩
end Go.Proofs.Ytnkddjdmpnghmaa.Am
namespace Go.Proofs.Ytnkddjdmpnghmaa.Am
set_option linter.unusedSimpArgs false
set_option linter.unusedVariables false
set_option maxRecDepth 100000
set_option maxHeartbeats 4000000
open Go Go.RowKit
/-- may one go on from a1 with a line up to b, by what is known behind b? -/
def okB (l : List Item) (x : Par) (t : Nat → Nat → Int × Int) (a1 b : Nat) : Bool :=
  legalB l b && ((judD l x a1 b).fits && (!decide (b < l.length - 1) || !decide ((t (b + 1) (judD l x a1 b).cls.toNat).1 = 0)))
def cstB (l : List Item) (x : Par) (t : Nat → Nat → Int × Int) (a1 b c : Nat) : Int :=
  demD l x (judD l x a1 b).bad (judD l x a1 b).cls c ((a1 : Int) - 1) b + (if b < l.length - 1 then (t (b + 1) (judD l x a1 b).cls.toNat).2 else 0)
def updB (l : List Item) (x : Par) (t : Nat → Nat → Int × Int) (a1 b : Nat) (acc : Nat → Int × Int) (c : Nat) : Int × Int :=
  if (acc c).1 = 0 ∨ cstB l x t a1 b c < (acc c).2 then ((b : Int), cstB l x t a1 b c) else acc c
def bRow (l : List Item) (x : Par) (t : Nat → Nat → Int × Int) (a1 : Nat) : Nat → Nat → Int × Int
  | 0 => fun _ => (0, 0)
  | m + 1 => if okB l x t a1 (a1 + m) = true then updB l x t a1 (a1 + m) (bRow l x t a1 m) else bRow l x t a1 m
def rowD (l : List Item) (x : Par) (t : Nat → Nat → Int × Int) (a1 : Nat) : Nat → Int × Int :=
  if a1 = 0 ∨ legalB l ((a1 : Int) - 1) = true then bRow l x t a1 (foA l a1 + 1 - a1) else fun _ => (0, 0)
/-- by the place of a break (one higher), and the class of the line ahead: where one goes on to, and what that costs; the last k places are done -/
def tabD (l : List Item) (x : Par) : Nat → Nat → Nat → Int × Int
  | 0 => fun _ _ => (0, 0)
  | k + 1 => fun i => if i + k + 1 = l.length then rowD l x (tabD l x k) i else tabD l x k i
def pathB (l : List Item) (x : Par) (t : Nat → Nat → Int × Int) : Nat → Nat → Int → List Int
  | 0, _, _ => []
  | d + 1, a1, cls => if a1 < l.length then (t a1 cls.toNat).1 :: pathB l x t d ((t a1 cls.toNat).1 + 1).toNat (judD l x a1 (t a1 cls.toNat).1.toNat).cls else []
def bestD (l : List Item) (x : Par) : List Int × Int × Bool :=
  if goodL l = true ∧ x.good = true ∧ (tabD l x l.length 0 1).1 ≠ 0 then (pathB l x (tabD l x l.length) l.length 0 1, (tabD l x l.length 0 1).2, true) else ([], 0, false)
theorem classD_bd (y z : Int) (f : Bool) : 0 ≤ classD y z f ∧ classD y z f ≤ 3 := by
  unfold classD
  (repeat' split) <;> omega
theorem judD_cls (l : List Item) (x : Par) (a1 b : Nat) : 0 ≤ (judD l x a1 b).cls ∧ (judD l x a1 b).cls ≤ 3 := by
  unfold judD
  split <;> exact classD_bd _ _ _
theorem tabD_none {l : List Item} {x : Par} : ∀ {k i : Nat}, i + k < l.length → tabD l x k i = fun _ => (0, 0)
  | 0, _, _ => rfl
  | k + 1, i, h => by
    simp only [tabD]
    rw [if_neg (by omega)]
    exact tabD_none (by omega)
theorem tabD_out {l : List Item} {x : Par} : ∀ {k i : Nat}, l.length ≤ i → tabD l x k i = fun _ => (0, 0)
  | 0, _, _ => rfl
  | k + 1, i, h => by
    simp only [tabD]
    rw [if_neg (by omega)]
    exact tabD_out (by omega)
theorem tabD_stable {l : List Item} {x : Par} {j : Nat} (hj : j < l.length) : ∀ {k : Nat}, l.length ≤ j + k → tabD l x k j = rowD l x (tabD l x (l.length - 1 - j)) j
  | 0, h => by omega
  | k + 1, h => by
    simp only [tabD]
    by_cases hk : j + k + 1 = l.length
    · rw [if_pos hk, show l.length - 1 - j = k from by omega]
    · rw [if_neg hk]
      exact tabD_stable hj (by omega)
theorem tabD_same {l : List Item} {x : Par} {j k k' : Nat} (h : l.length ≤ j + k) (h' : l.length ≤ j + k') : tabD l x k j = tabD l x k' j := by
  by_cases hj : j < l.length
  · rw [tabD_stable hj h, tabD_stable hj h']
  · rw [tabD_out (by omega), tabD_out (by omega)]
/-- bounds of what stands in the table -/
structure TabOk (l : List Item) (i : Nat) (p : Int × Int) : Prop where
  lo : 0 ≤ p.1
  hi : p.1 < l.length
  up : p.1 = 0 ∨ (i : Int) ≤ p.1
  cl : -(223000000 * ((l.length : Int) - i)) ≤ p.2
  ch : p.2 ≤ 223000000 * ((l.length : Int) - i)
theorem TabOk.zero {l : List Item} {i : Nat} (h : i ≤ l.length) (h0 : 0 < l.length) : TabOk l i (0, 0) := ⟨by simp, by simp; omega, .inl rfl, by simp; omega, by simp; omega⟩
theorem cstB_bd {l : List Item} {x : Par} {t : Nat → Nat → Int × Int} {a1 b c : Nat} (hb : b < l.length) (hab : a1 ≤ b) (ht : ∀ i c, i < l.length → TabOk l i (t i c)) : -(223000000 * ((l.length : Int) - a1)) ≤ cstB l x t a1 b c ∧ cstB l x t a1 b c ≤ 223000000 * ((l.length : Int) - a1) := by
  have h1 := demD_bd l x (judD l x a1 b).bad (judD l x a1 b).cls c ((a1 : Int) - 1) b
  unfold cstB
  split
  · have h2 := ht (b + 1) (judD l x a1 b).cls.toNat (by omega)
    have h3 := h2.cl
    have h4 := h2.ch
    constructor <;> omega
  · constructor <;> omega
theorem bRow_ok {l : List Item} {x : Par} {t : Nat → Nat → Int × Int} {a1 : Nat} (ht : ∀ i c, i < l.length → TabOk l i (t i c)) (ha : a1 < l.length) : ∀ m, a1 + m ≤ l.length → ∀ c, TabOk l a1 (bRow l x t a1 m c)
  | 0, _, c => TabOk.zero (by omega) (by omega)
  | m + 1, h, c => by
    have ih := bRow_ok (x := x) ht ha m (by omega) c
    simp only [bRow]
    split
    · unfold updB
      split
      · have hc := cstB_bd (x := x) (c := c) (show a1 + m < l.length by omega) (show a1 ≤ a1 + m by omega) ht
        exact ⟨by dsimp only; omega, by dsimp only; omega, .inr (by dsimp only; omega), hc.1, hc.2⟩
      · exact ih
    · exact ih
theorem tabD_ok {l : List Item} {x : Par} (hg : goodL l = true) : ∀ k i c, i < l.length → TabOk l i (tabD l x k i c)
  | 0, i, c, h => TabOk.zero (by omega) (by omega)
  | k + 1, i, c, h => by
    simp only [tabD]
    split
    · unfold rowD
      split
      · have := foA_last hg h
        exact bRow_ok (tabD_ok hg k) h _ (by omega) c
      · exact TabOk.zero (by omega) (by omega)
    · exact tabD_ok hg k i c h
/-- where one goes on to, one may go on -/
theorem bRow_next {l : List Item} {x : Par} {t : Nat → Nat → Int × Int} {a1 : Nat} : ∀ m c, (bRow l x t a1 m c).1 ≠ 0 → ∃ b, a1 ≤ b ∧ b < a1 + m ∧ (bRow l x t a1 m c).1 = (b : Nat) ∧ okB l x t a1 b = true
  | 0, c, h => by simp [bRow] at h
  | m + 1, c, h => by
    simp only [bRow] at h ⊢
    split
    · rename_i hk
      rw [if_pos hk] at h
      unfold updB at h ⊢
      split
      · exact ⟨a1 + m, by omega, by omega, rfl, hk⟩
      · rename_i hn
        rw [if_neg hn] at h
        obtain ⟨b, h1, h2, h3, h4⟩ := bRow_next m c h
        exact ⟨b, h1, by omega, h3, h4⟩
    · rename_i hk
      rw [if_neg hk] at h
      obtain ⟨b, h1, h2, h3, h4⟩ := bRow_next m c h
      exact ⟨b, h1, by omega, h3, h4⟩
theorem tab_next {l : List Item} {x : Par} (hg : goodL l = true) {a1 c : Nat} (ha : a1 < l.length) (h : (tabD l x l.length a1 c).1 ≠ 0) :
    ∃ b, a1 ≤ b ∧ b < l.length ∧ (tabD l x l.length a1 c).1 = (b : Nat) ∧ legalB l b = true ∧ (judD l x a1 b).fits = true ∧ (b + 1 < l.length → (tabD l x l.length (b + 1) (judD l x a1 b).cls.toNat).1 ≠ 0) := by
  rw [tabD_stable ha (by omega)] at h ⊢
  unfold rowD at h ⊢
  split
  · rename_i hl
    rw [if_pos hl] at h
    obtain ⟨b, h1, h2, h3, h4⟩ := bRow_next _ c h
    have hf := foA_last hg ha
    simp only [okB, Bool.and_eq_true, Bool.or_eq_true, Bool.not_eq_true', decide_eq_false_iff_not] at h4
    obtain ⟨h5, h6, h7⟩ := h4
    refine ⟨b, h1, by omega, h3, h5, h6, fun hb => ?_⟩
    rw [tabD_same (k := l.length) (k' := l.length - 1 - a1) (by omega) (by omega)]
    rcases h7 with h7 | h7
    · omega
    · exact h7
  · rename_i hl
    rw [if_neg hl] at h
    simp at h
end Go.Proofs.Ytnkddjdmpnghmaa.Am
namespace Go.Proofs.Ytnkddjdmpnghmaa.Am
set_option linter.unusedSimpArgs false
set_option linter.unusedVariables false
set_option maxRecDepth 100000
set_option maxHeartbeats 4000000
open Go Go.RowKit
/-- the table, where it lies -/
def TB (l : List Item) (T : Nat → Int) (t : Nat → Nat → Int × Int) : Prop := ∀ i c, i < l.length → c < 4 → T (i * 8 + c) = (t i c).1 ∧ T (i * 8 + 4 + c) = (t i c).2
def setR (t : Nat → Nat → Int × Int) (a1 : Nat) (acc : Nat → Int × Int) : Nat → Nat → Int × Int := fun i => if i = a1 then acc else t i
theorem TB.at {l : List Item} {T : Nat → Int} {t : Nat → Nat → Int × Int} (h : TB l T t) {i c k : Nat} (hi : i < l.length) (hc : c < 4) (hk : k = i * 8 + c) : T k = (t i c).1 := hk ▸ (h i c hi hc).1
theorem TB.at4 {l : List Item} {T : Nat → Int} {t : Nat → Nat → Int × Int} (h : TB l T t) {i c k : Nat} (hi : i < l.length) (hc : c < 4) (hk : k = i * 8 + 4 + c) : T k = (t i c).2 := hk ▸ (h i c hi hc).2
theorem setR_id {t : Nat → Nat → Int × Int} {a1 : Nat} {acc : Nat → Int × Int} (h : t a1 = acc) : setR t a1 acc = t := by
  funext i
  unfold setR
  split
  · rename_i e; rw [e, h]
  · rfl
theorem TB.cong {l : List Item} {T : Nat → Int} {t : Nat → Nat → Int × Int} {a1 : Nat} {acc acc' : Nat → Int × Int} (h : TB l T (setR t a1 acc)) (he : ∀ c, c < 4 → acc' c = acc c) : TB l T (setR t a1 acc') := by
  intro i c hi hc
  have := h i c hi hc
  unfold setR at this ⊢
  split
  · rename_i e
    rw [if_pos e] at this
    rw [he c hc]; exact this
  · rename_i e
    rw [if_neg e] at this
    exact this
theorem TB.upd {l : List Item} {T : Nat → Int} {t : Nat → Nat → Int × Int} {a1 c A B : Nat} {acc acc' : Nat → Int × Int} {p q : Int} (h : TB l T (setR t a1 acc)) (hc : c < 4) (hA : A = a1 * 8 + c) (hB : B = a1 * 8 + 4 + c) (h1 : acc' c = (p, q)) (he : ∀ c', c' < 4 → c' ≠ c → acc' c' = acc c') : TB l (setI (setI T A p) B q) (setR t a1 acc') := by
  subst hA hB
  intro i c' hi hc'
  have := h i c' hi hc'
  unfold setR at this ⊢
  by_cases e : i = a1
  · subst e
    rw [if_pos rfl] at this ⊢
    by_cases e2 : c' = c
    · subst e2
      have n1 : i * 8 + c' ≠ i * 8 + 4 + c' := by omega
      simp [setI, h1, n1]
    · have n1 : i * 8 + c' ≠ i * 8 + c := by omega
      have n2 : i * 8 + c' ≠ i * 8 + 4 + c := by omega
      have n3 : i * 8 + 4 + c' ≠ i * 8 + 4 + c := by omega
      have n4 : i * 8 + 4 + c' ≠ i * 8 + c := by omega
      simp only [setI, n1, n2, n3, n4, if_false, he c' hc' e2]
      exact this
  · rw [if_neg e] at this ⊢
    have n1 : i * 8 + c' ≠ a1 * 8 + c := by omega
    have n2 : i * 8 + c' ≠ a1 * 8 + 4 + c := by omega
    have n3 : i * 8 + 4 + c' ≠ a1 * 8 + 4 + c := by omega
    have n4 : i * 8 + 4 + c' ≠ a1 * 8 + c := by omega
    simp only [setI, n1, n2, n3, n4, if_false]
    exact this
theorem pathB_end (l : List Item) (x : Par) (t : Nat → Nat → Int × Int) (d : Nat) (cls : Int) : pathB l x t d l.length cls = [] := by cases d <;> simp [pathB]
theorem Best_C (F : Mem) (v : Value) (l : List Item) (x : Par) (hv : RItems F v l) : C Try.prog 40 [v, x.v] F (fun u Y => ∃ w, u = .tuple #[w, .int .i64 (bestD l x).2.1, .bool (bestD l x).2.2] ∧ SlV w ∧ ∀ G, Rd G Y → RInts G w (bestD l x).1) := by
  have hno : ¬ (goodL l = true ∧ x.good = true ∧ (tabD l x l.length 0 1).1 ≠ 0) → bestD l x = ([], 0, false) := fun h => by simp only [bestD]; rw [if_neg h]
  have hye : (goodL l = true ∧ x.good = true ∧ (tabD l x l.length 0 1).1 ≠ 0) → bestD l x = (pathB l x (tabD l x l.length) l.length 0 1, (tabD l x l.length 0 1).2, true) := fun h => by simp only [bestD]; rw [if_pos h]
  obtain ⟨xw, tol, line, twice, odd⟩ := x
  generalize hx : (⟨xw, tol, line, twice, odd⟩ : Par) = x at *
  have hxv : x.v = .agg #[.int .i64 xw, .int .i64 tol, .int .i64 line, .int .i64 twice, .int .i64 odd] := by rw [← hx]; rfl
  have hGd : ∀ G : Mem, C0 Try.prog 39 [.agg #[.int .i64 xw, .int .i64 tol, .int .i64 line, .int .i64 twice, .int .i64 odd]] G (.bool x.good) := fun G => by rw [← hxv]; exact Good_C G x
  have hJ : ∀ (G : Mem) {p : Value}, RPara G p l → ∀ (a : Int) (a1 b : Nat), goodL l = true → x.good = true → a + 1 = a1 → a1 ≤ l.length → b < l.length → C0 Try.prog 56 [p, .int .i64 a, .int .i64 b, .agg #[.int .i64 xw, .int .i64 tol, .int .i64 line, .int .i64 twice, .int .i64 odd]] G (judV l x a1 b) := fun G p hp a a1 b h1 h2 h3 h4 h5 => by rw [← hxv]; exact judge_C G p l a a1 b x hp h1 h3 h4 h5 h2
  have hDm : ∀ (G : Mem) {p : Value}, RPara G p l → ∀ (w y z bad cls prev a b : Int) (fits : Bool), a < l.length → b < l.length → C0 Try.prog 57 [p, lineV w y z bad cls fits, .int .i64 prev, .int .i64 a, .int .i64 b, .agg #[.int .i64 xw, .int .i64 tol, .int .i64 line, .int .i64 twice, .int .i64 odd]] G (.int .i64 (demD l x bad cls prev a b)) := fun G p hp w y z bad cls prev a b fits h1 h2 => by rw [← hxv]; exact demerits_C G p l w y z bad cls prev a b fits x hp h1 h2
  rw [hxv]
  rcases hv.forms with ⟨vb, vo, vc, rfl⟩ | ⟨rfl, rfl⟩
  ·
    refine C.go hT Try.func40 Try.ntmps40 ?_
    refine sq ?_
    refine rg ?_
    refine bx ?_
    iterate 3 (refine st (h := O) ?_)
    refine nl ?_
    refine sc ?_
    iterate 2 (refine sq ?_)
    refine rg ?_
    refine st (h := O) ?_
    refine cl (h := by exact fun ι hV hl => IGood_C _ _ l (hv.le hl)) ?_
    iterate 2 (refine st (h := O) ?_)
    refine gB (fun g23 => ?_) (fun g23 => ?_)
    ·refine sp ?_
     iterate 2 (refine sp ?_)
     refine st (h := O) ?_
     refine nl ?_
     refine cT ?_
     refine sq ?_
     refine rg ?_
     iterate 3 (refine st (h := O) ?_)
     refine nl ?_
     refine rt ⟨_, ?_, .inr ⟨0, 0, rfl⟩, fun G hG => ?_⟩
     · rw [hno (fun h => not_of g23 h.1)]
     · rw [hno (fun h => not_of g23 h.1)]; exact .inr ⟨rfl, rfl⟩
    ·refine sg (h := sdLN) ?_
     refine clg (h := by exact fun ι hV hl => hGd _) ?_
     refine sg (h := O) ?_
     refine st (h := O) ?_
     refine nl ?_
     refine cB (fun c0 => ?_) (fun c0 => ?_)
     ·refine sq ?_
      refine rg ?_
      iterate 3 (refine st (h := O) ?_)
      refine nl ?_
      refine rt ⟨_, ?_, .inr ⟨0, 0, rfl⟩, fun G hG => ?_⟩
      · rw [hno (fun h => not_of c0 h.2.1)]
      · rw [hno (fun h => not_of c0 h.2.1)]; exact .inr ⟨rfl, rfl⟩
     ·have hgl := of_not g23
      have hgx := of_not c0
      have hlen := good_len hgl
      refine sk ?_
      refine sq ?_
      refine rg ?_
      refine st (h := O) ?_
      refine clC (h := by exact fun ι hV hl => ready_C _ (.slice (some ⟨vb, vo, none⟩) l.length vc) l (hv.le hl) hgl) ?_
      intro p Y hQ hpv hpp hN
      have hp := hQ _ (hv.le hN.le) hN.rows
      obtain ⟨pb, po, qb, qo, qc, wb, wo, wc, yb, yo, yc, zb, zo, zc, bb, bo, bc, fb, fo, fc, rfl, ⟨_, _, _, _, _, hf0⟩, _, hf8⟩ := id hp
      refine st (h := O) ?_
      refine nl ?_
      refine sq ?_
      refine rg ?_
      iterate 2 (refine st (h := O) ?_)
      refine st (h := sdS) ?_
      refine st (h := O) ?_
      refine nl ?_
      refine sq ?_
      refine rg ?_
      refine st (h := O) ?_
      refine st (h := sdA) ?_
      refine mk ?_
      rw [zer_gIn (s := 8)]
      rotate_left
      · rfl
      rw [show ((l.length : Int) - 1 + 1).toNat * 8 = l.length * 8 from by omega]
      refine st (h := O) ?_
      refine nl ?_
      refine sq ?_
      refine lb ?_
      iterate 2 (refine sq ?_)
      refine rg ?_
      refine st (h := O) ?_
      refine st (h := sdS) ?_
      refine st (h := O) ?_
      refine nl ?_
      refine bl ?_
      refine J.loop3 (α := Int) (β := Nat) (γ := Nat → Int) (fun a k T => -2 ≤ a ∧ a + k + 2 = l.length ∧ TB l T (tabD l x k)) (fun a k T => [(10, .int .i64 a)]) [(3, _), (7, _), (8, _), (9, _)] (fun a k T => [(35, { elem := 96, cs := gI T (l.length * 8), room := l.length * 8, flat := true })]) [(3, _)] (fun a k T => (a + 2).toNat) (_) (0) (_) (by exact ⟨rfl, trivial⟩) (by exact ⟨rfl, rfl, rfl, rfl, trivial⟩) (by exact ⟨rfl, rfl, rfl, rfl, trivial⟩) ?_ ?_
      · exact ⟨by omega, by omega, fun i c _ _ => ⟨rfl, rfl⟩⟩
      ·intro a k T L1 K1 e1 e2 hI
       dsimp only [apV, apR, List.cons_append, List.nil_append] at e1 e2
       subst e1 e2
       obtain ⟨ha, hak, hTb⟩ := hI
       iterate 2 (refine sq ?_)
       refine rg ?_
       iterate 2 (refine st (h := O) ?_)
       refine nl ?_
       refine cD (fun c1 => ?_) (fun c1 => ?_)
       ·obtain ⟨a1, ha1⟩ := Int.eq_ofNat_of_zero_le (show (0 : Int) ≤ a + 1 by omega)
        obtain rfl : a = (a1 : Int) - 1 := by omega
        have ha1l : a1 < l.length := by omega
        have e1 : ((a1 : Int) - 1 + 1).toNat = a1 := by omega
        obtain ⟨_, _, _, _, hfo⟩ := hf8 a1 (by omega)
        have hfo' : look (F.add Y) ⟨fb, fo + ((a1 : Int) - 1 + 1).toNat * 1, none⟩ = some (.int .i64 (foA l a1)) := by rw [e1]; exact hfo
        obtain ⟨fl1, fl2, fl3⟩ := foA_last hgl ha1l
        have hmin : min (foA l a1 : Int) ((l.length : Int) - 1) = foA l a1 := by omega
        have hrow : (a1 = 0 ∨ legalB l ((a1 : Int) - 1) = true) → tabD l x (k + 1) = setR (tabD l x k) a1 (bRow l x (tabD l x k) a1 (foA l a1 + 1 - a1)) := fun h => by
          funext i
          simp only [tabD, setR]
          by_cases hi : i = a1
          · rw [if_pos (by omega), if_pos hi, hi, rowD, if_pos h]
          · rw [if_neg (by omega), if_neg hi]
        have hrow0 : ¬ (a1 = 0 ∨ legalB l ((a1 : Int) - 1) = true) → tabD l x (k + 1) = tabD l x k := fun h => by
          funext i
          simp only [tabD]
          by_cases hi : i = a1
          · rw [if_pos (by omega), hi, rowD, if_neg h, tabD_none (by omega)]
          · rw [if_neg (by omega)]
        have htk : ∀ i c, i < l.length → TabOk l i (tabD l x k i c) := fun i c h => tabD_ok hgl k i c h
        refine sk ?_
        refine sq ?_
        refine bl ?_
        refine sc ?_
        iterate 2 (refine sq ?_)
        refine rg ?_
        iterate 3 (refine st (h := O) ?_)
        refine gD (fun g44 => ?_) (fun g44 => ?_)
        ·refine sg (h := O) ?_
         refine sg (h := O) ?_
         refine clg (h := by exact fun ι hV hl => legal_C _ _ l _ (hp.le hl).head) ?_
         refine sg (h := O) ?_
         refine st (h := O) ?_
         refine nl ?_
         refine cB (fun c2 => ?_) (fun c2 => ?_)
         ·refine ex ?_
          refine rg ?_
          refine st (h := O) ?_
          refine st (h := sdS) ?_
          refine st (h := O) ?_
          refine nl ?_
          refine bk3 (_) (k + 1) (_) (by exact ⟨rfl, trivial⟩) (by exact ⟨rfl, rfl, rfl, rfl, trivial⟩) (by exact ⟨rfl, rfl, rfl, rfl, trivial⟩) ?_ ?_
          · omega
          · refine ⟨by omega, by omega, ?_⟩
            have hlf := not_of c2
            rw [hrow0 (by rintro (h | h); · omega
                          · exact hlf h)]
            exact hTb
         ·refine sk ?_
          refine sq ?_
          refine rg ?_
          iterate 2 (refine st (h := O) ?_)
          refine st (h := sdA) ?_
          refine st (h := (sdX (z := 8))) ?_
          refine st (h := O) ?_
          refine nl ?_
          refine sq ?_
          refine lb ?_
          refine sq ?_
          refine rg ?_
          refine st (h := O) ?_
          refine st (h := sdA) ?_
          refine st (h := O) ?_
          refine nl ?_
          refine bl ?_
          refine J.loop2 (α := Int) (β := Nat → Int) (fun b T' => (a1 : Int) ≤ b ∧ b ≤ foA l a1 + 1 ∧ TB l T' (setR (tabD l x k) a1 (bRow l x (tabD l x k) a1 (b - a1).toNat))) (fun b T' => [(12, .int .i64 b)]) [(3, _), (7, _), (8, _), (9, _), (10, _), (11, _)] (fun b T' => [(35, { elem := 96, cs := gI T' (l.length * 8), room := l.length * 8, flat := true })]) [(3, _)] (fun b T' => (foA l a1 + 1 - b).toNat) (_) (_) (by exact ⟨rfl, trivial⟩) (by exact ⟨rfl, rfl, rfl, rfl, rfl, rfl, trivial⟩) (by exact ⟨rfl, rfl, rfl, rfl, trivial⟩) ?_ ?_
          · refine ⟨by omega, by omega, ?_⟩
            rw [show ((a1 : Int) - 1 + 1 - a1).toNat = 0 from by omega, setR_id (by rw [tabD_none (by omega)]; rfl)]
            exact hTb
          ·intro b T' L1 K1 e1 e2 hI
           dsimp only [apV, apR, List.cons_append, List.nil_append] at e1 e2
           subst e1 e2
           obtain ⟨hb0, hb1, hT'⟩ := hI
           iterate 2 (refine sq ?_)
           refine rg ?_
           iterate 3 (refine st (h := O) ?_)
           refine st (h := sdFA) ?_
           refine st (h := sdL) ?_
           refine st (h := O) ?_
           refine st (h := sdA) ?_
           refine st (h := (sdX (z := 1))) ?_
           refine st (h := (by first | exact sdLG | exact sdW)) ?_
           iterate 3 (refine st (h := O) ?_)
           refine nl ?_
           refine cD (fun c3 => ?_) (fun c3 => ?_)
           ·rw [hmin] at c3
            obtain ⟨b1, rfl⟩ := Int.eq_ofNat_of_zero_le (show (0 : Int) ≤ b by omega)
            obtain ⟨m, rfl⟩ : ∃ m, b1 = a1 + m := ⟨b1 - a1, by omega⟩
            rw [show ((a1 + m : Nat) : Int) - a1 = m from by omega, Int.toNat_natCast] at hT'
            have hbl : a1 + m < l.length := by omega
            have hj := judD_cls l x a1 (a1 + m)
            refine sk ?_
            refine sq ?_
            refine bl ?_
            iterate 2 (refine sq ?_)
            refine rg ?_
            iterate 2 (refine st (h := O) ?_)
            refine cl (h := by exact fun ι hV hl => legal_C _ _ l _ (hp.le hl).head) ?_
            refine st (h := O) ?_
            refine nl ?_
            refine cB (fun c4 => ?_) (fun c4 => ?_)
            ·refine ex ?_
             refine rg ?_
             refine st (h := O) ?_
             refine st (h := sdA) ?_
             refine st (h := O) ?_
             refine nl ?_
             refine bk2 (_) (_) (by exact ⟨rfl, trivial⟩) (by exact ⟨rfl, rfl, rfl, rfl, rfl, rfl, trivial⟩) (by exact ⟨rfl, rfl, rfl, rfl, trivial⟩) ?_ ?_
             · omega
             · refine ⟨by omega, by omega, ?_⟩
               rw [show (((a1 + m : Nat) : Int) + 1 - a1).toNat = m + 1 from by omega, bRow, if_neg (by simp only [okB, Bool.and_eq_true]; exact fun h => not_of c4 h.1)]
               exact hT'
            ·refine sk ?_
             refine sq ?_
             refine rg ?_
             iterate 3 (refine st (h := O) ?_)
             refine st (h := sdLN) ?_
             refine cl (h := by exact fun ι hV hl => hJ _ (hp.le hl) _ a1 (a1 + m) hgl hgx ha1 (by omega) (by omega)) ?_
             refine al ?_
             refine so ?_
             refine nl ?_
             iterate 2 (refine sq ?_)
             refine dr 20 [13, 35, 3] [0, 1, 2, 3, 4, 5, 6, 7, 8, 9, 10, 11, 12, 13, 14, 15, 16, 17, 18, 19] ?_
             refine dt (hv := by exact sdFA) ?_
             refine dt (hv := by exact sdL) ?_
             iterate 2 (refine dt (hv := by exact O) ?_)
             refine dgB (fun g82 => ?_) (fun g82 => ?_)
             ·refine dp ?_
              iterate 3 (refine dp ?_)
              iterate 10 (refine du ?_)
              refine dp ?_
              refine dt (hv := by exact O) ?_
              refine dn ?_
              refine cT ?_
              refine ex ?_
              refine rg ?_
              refine st (h := O) ?_
              refine st (h := sdA) ?_
              refine st (h := O) ?_
              refine nl ?_
              refine bk2 (_) (_) (by exact ⟨rfl, trivial⟩) (by exact ⟨rfl, rfl, rfl, rfl, rfl, rfl, trivial⟩) (by exact ⟨rfl, rfl, rfl, rfl, trivial⟩) ?_ ?_
              · omega
              · refine ⟨by omega, by omega, ?_⟩
                rw [show (((a1 + m : Nat) : Int) + 1 - a1).toNat = m + 1 from by omega, bRow, if_neg (by simp only [okB, Bool.and_eq_true]; exact fun h => not_of g82 h.2.1)]
                exact hT'
             ·refine dg (hv := by exact O) ?_
              iterate 3 (refine dg (hv := by exact O) ?_)
              refine dgD (fun g86 => ?_) (fun g86 => ?_)
              ·have hTn : T' (0 + (((a1 + m : Nat) : Int) + 1).toNat * 8 + 0 + (judD l x a1 (a1 + m)).cls.toNat * 1) = (tabD l x k (a1 + m + 1) (judD l x a1 (a1 + m)).cls.toNat).1 := by
                 rw [hT'.at (i := a1 + m + 1) (c := (judD l x a1 (a1 + m)).cls.toNat) (by omega) (by omega) (by omega)]
                 simp only [setR]
                 rw [if_neg (by omega)]
               iterate 2 (refine dg (hv := by exact O) ?_)
               refine dg (hv := by exact sdA) ?_
               refine dg (hv := by exact sdFA) ?_
               refine dg (hv := by exact sdL) ?_
               refine dg (hv := by exact (sdX (z := 8))) ?_
               refine dg (hv := by exact sdFA) ?_
               refine dg (hv := by exact (sdXA (z := 1))) ?_
               refine dg (hv := by exact (by first | exact sdLG | exact sdW)) ?_
               iterate 2 (refine dg (hv := by exact O) ?_)
               refine dt (hv := by exact O) ?_
               refine dn ?_
               refine cD (fun c5 => ?_) (fun c5 => ?_)
               ·refine ex ?_
                refine rg ?_
                refine st (h := O) ?_
                refine st (h := sdA) ?_
                refine st (h := O) ?_
                refine nl ?_
                refine bk2 (_) (_) (by exact ⟨rfl, trivial⟩) (by exact ⟨rfl, rfl, rfl, rfl, rfl, rfl, trivial⟩) (by exact ⟨rfl, rfl, rfl, rfl, trivial⟩) ?_ ?_
                · omega
                · refine ⟨by omega, by omega, ?_⟩
                  rw [show (((a1 + m : Nat) : Int) + 1 - a1).toNat = m + 1 from by omega, bRow, if_neg (by
                    simp only [okB, Bool.and_eq_true, Bool.or_eq_true, Bool.not_eq_true', decide_eq_false_iff_not]
                    rintro ⟨-, -, h | h⟩
                    · omega
                    · exact h (hTn ▸ c5))]
                  exact hT'
               ·have hok : okB l x (tabD l x k) a1 (a1 + m) = true := by
                  simp only [okB, Bool.and_eq_true, Bool.or_eq_true, Bool.not_eq_true', decide_eq_false_iff_not]
                  exact ⟨of_not c4, of_not g82, .inr (fun h => c5 (hTn.trans h))⟩
                refine sk ?_
                refine sq ?_
                refine rg ?_
                refine st (h := O) ?_
                refine nl ?_
                refine bl ?_
                refine J.loop2 (α := Nat) (β := Nat → Int) (fun c T2 => c ≤ 4 ∧ TB l T2 (setR (tabD l x k) a1 (fun c' => if c' < c then updB l x (tabD l x k) a1 (a1 + m) (bRow l x (tabD l x k) a1 m) c' else bRow l x (tabD l x k) a1 m c'))) (fun c T2 => [(99, .int .i64 c)]) [(3, _), (7, _), (8, _), (9, _), (10, _), (11, _), (12, _), (13, _)] (fun c T2 => [(35, { elem := 96, cs := gI T2 (l.length * 8), room := l.length * 8, flat := true })]) [(13, _), (3, _)] (fun c T2 => 4 - c) (0) (_) (by exact ⟨rfl, trivial⟩) (by exact ⟨rfl, rfl, rfl, rfl, rfl, rfl, rfl, rfl, trivial⟩) (by exact ⟨rfl, rfl, rfl, rfl, rfl, rfl, trivial⟩) ?_ ?_
                · refine ⟨by omega, ?_⟩
                  exact hT'.cong fun c' hc' => (by rw [if_neg (by omega)])
                ·intro c T2 L1 K1 e1 e2 hI
                 dsimp only [apV, apR, List.cons_append, List.nil_append] at e1 e2
                 subst e1 e2
                 obtain ⟨hc4, hT2⟩ := hI
                 refine sq ?_
                 refine rg ?_
                 refine st (h := O) ?_
                 refine nl ?_
                 refine sq ?_
                 refine cD (fun c6 => ?_) (fun c6 => ?_)
                 ·have hc : c < 4 := by omega
                  refine sk ?_
                  refine sq ?_
                  refine bl ?_
                  refine sq ?_
                  refine rg ?_
                  iterate 2 (refine st (h := O) ?_)
                  refine nl ?_
                  refine sq ?_
                  refine rg ?_
                  refine st (h := O) ?_
                  refine st (h := sdLN) ?_
                  iterate 3 (refine st (h := O) ?_)
                  refine st (h := sdLN) ?_
                  refine cl (h := by exact fun ι hV hl => hDm _ (hp.le hl) _ _ _ _ _ _ _ _ _ (by omega) (by omega)) ?_
                  refine st (h := O) ?_
                  refine nl ?_
                  iterate 2 (refine sq ?_)
                  refine rg ?_
                  iterate 3 (refine st (h := O) ?_)
                  refine nl ?_
                  refine cD (fun c7 => ?_) (fun c7 => ?_)
                  ·have hTc : T2 (0 + (((a1 + m : Nat) : Int) + 1).toNat * 8 + 4 + (judD l x a1 (a1 + m)).cls.toNat * 1) = (tabD l x k (a1 + m + 1) (judD l x a1 (a1 + m)).cls.toNat).2 := by
                     rw [hT2.at4 (i := a1 + m + 1) (c := (judD l x a1 (a1 + m)).cls.toNat) (by omega) (by omega) (by omega)]
                     simp only [setR]
                     rw [if_neg (by omega)]
                   have htb := htk (a1 + m + 1) (judD l x a1 (a1 + m)).cls.toNat (by omega)
                   have htb1 := htb.cl
                   have htb2 := htb.ch
                   have hdb := demD_bd l x (judD l x a1 (a1 + m)).bad (judD l x a1 (a1 + m)).cls c ((a1 : Int) - 1) (a1 + m : Nat)
                   have hcst : demD l x (judD l x a1 (a1 + m)).bad (judD l x a1 (a1 + m)).cls c ((a1 : Int) - 1) (a1 + m : Nat) + T2 (0 + (((a1 + m : Nat) : Int) + 1).toNat * 8 + 4 + (judD l x a1 (a1 + m)).cls.toNat * 1) = cstB l x (tabD l x k) a1 (a1 + m) c := by
                     rw [hTc]; unfold cstB; rw [if_pos (by omega)]
                   refine dr 12 [35, 13, 3] [0, 1, 2, 3, 4, 5, 6, 7, 8, 9, 10, 11] ?_
                   iterate 3 (refine dt (hv := by exact O) ?_)
                   refine dt (hv := by exact sdA) ?_
                   refine dt (hv := by exact sdFA) ?_
                   refine dt (hv := by exact sdL) ?_
                   refine dt (hv := by exact (sdX (z := 8))) ?_
                   refine dt (hv := by exact sdFA) ?_
                   refine dt (hv := by exact (sdXA (z := 1))) ?_
                   refine dt (hv := by exact (by first | exact sdLG | exact sdW)) ?_
                   refine dt (hv := by exact sdA) ?_
                   refine dt (hv := by exact O) ?_
                   refine dn ?_
                   refine sq ?_
                   rw [hcst]
                   have hA : T2 (0 + ((a1 : Int) - 1 + 1).toNat * 8 + 0 + (c : Int).toNat * 1) = (bRow l x (tabD l x k) a1 m c).1 := by
                     rw [hT2.at (i := a1) (c := c) (by omega) (by omega) (by omega)]
                     simp [setR]
                   have hB : T2 (0 + ((a1 : Int) - 1 + 1).toNat * 8 + 4 + (c : Int).toNat * 1) = (bRow l x (tabD l x k) a1 m c).2 := by
                     rw [hT2.at4 (i := a1) (c := c) (by omega) (by omega) (by omega)]
                     simp [setR]
                   refine rg ?_
                   iterate 3 (refine st (h := O) ?_)
                   refine st (h := sdFA) ?_
                   refine st (h := (sdXA (z := 1))) ?_
                   refine st (h := (by first | exact sdLG | exact sdW)) ?_
                   iterate 2 (refine st (h := O) ?_)
                   refine gD (fun g130 => ?_) (fun g130 => ?_)
                   ·refine sp ?_
                    iterate 7 (refine sp ?_)
                    refine st (h := O) ?_
                    refine nl ?_
                    refine cT ?_
                    refine dr 9 [35, 13, 3] [0, 1, 2002, 2003, 4, 2005, 2006, 2007, 8, 2010, 2011, 1009, 2012, 1013] ?_
                    iterate 2 (refine dt (hv := by exact O) ?_)
                    iterate 2 (refine dq (hv := by exact fun _ _ => O) ?_)
                    refine dt (hv := by exact O) ?_
                    iterate 2 (refine dq (hv := by exact fun _ _ => O) ?_)
                    refine dq (hv := by exact fun _ _ => sdFA) ?_
                    refine dt (hv := by exact (sdXA (z := 1))) ?_
                    refine dq (hv := by exact fun _ _ => O) ?_
                    refine dq (hv := by exact fun _ _ => sdFA) ?_
                    first | refine dsoG ?_ | refine dso (hkp := by first | exact Kept.all | exact Kept.k0 | exact Kept.kY | exact Kept.kYY | exact Kept.kY3) ?_
                    refine dq (hv := by exact fun _ _ => (sdXA (z := 1))) ?_
                    first | refine dsoG ?_ | refine dso (hkp := by first | exact Kept.all | exact Kept.k0 | exact Kept.kY | exact Kept.kYY | exact Kept.kY3) ?_
                    refine dn ?_
                    refine bk ?_
                    refine rg ?_
                    refine st (h := sdA) ?_
                    refine st (h := O) ?_
                    refine nl ?_
                    refine bk2 (c + 1) (_) (by exact ⟨rfl, trivial⟩) (by exact ⟨rfl, rfl, rfl, rfl, rfl, rfl, rfl, rfl, trivial⟩) (by exact ⟨rfl, rfl, rfl, rfl, rfl, rfl, trivial⟩) ?_ ?_
                    · omega
                    · refine ⟨by omega, ?_⟩
                      have hu : updB l x (tabD l x k) a1 (a1 + m) (bRow l x (tabD l x k) a1 m) c = (((a1 + m : Nat) : Int), cstB l x (tabD l x k) a1 (a1 + m) c) := by unfold updB; rw [if_pos (.inl (hA ▸ g130))]
                      refine hT2.upd hc (by omega) (by omega) ?_ (fun c' h1 h2 => ?_)
                      · rw [if_pos (by omega), hu]
                      · by_cases h : c' < c
                        · rw [if_pos (by omega), if_pos h]
                        · rw [if_neg (by omega), if_neg h]
                   ·refine sg (h := O) ?_
                    iterate 3 (refine sg (h := O) ?_)
                    refine sg (h := sdFA) ?_
                    refine sg (h := (sdXA (z := 1))) ?_
                    refine sg (h := (by first | exact sdLG | exact sdW)) ?_
                    refine sg (h := O) ?_
                    refine st (h := O) ?_
                    refine nl ?_
                    refine cD (fun c8 => ?_) (fun c8 => ?_)
                    ·refine dr 9 [35, 13, 3] [0, 1, 2002, 2003, 4, 2005, 2006, 2007, 8, 2010, 2011, 1009, 2012, 1013] ?_
                     iterate 2 (refine dt (hv := by exact O) ?_)
                     iterate 2 (refine dq (hv := by exact fun _ _ => O) ?_)
                     refine dt (hv := by exact O) ?_
                     iterate 2 (refine dq (hv := by exact fun _ _ => O) ?_)
                     refine dq (hv := by exact fun _ _ => sdFA) ?_
                     refine dt (hv := by exact (sdXA (z := 1))) ?_
                     refine dq (hv := by exact fun _ _ => O) ?_
                     refine dq (hv := by exact fun _ _ => sdFA) ?_
                     first | refine dsoG ?_ | refine dso (hkp := by first | exact Kept.all | exact Kept.k0 | exact Kept.kY | exact Kept.kYY | exact Kept.kY3) ?_
                     refine dq (hv := by exact fun _ _ => (sdXA (z := 1))) ?_
                     first | refine dsoG ?_ | refine dso (hkp := by first | exact Kept.all | exact Kept.k0 | exact Kept.kY | exact Kept.kYY | exact Kept.kY3) ?_
                     refine dn ?_
                     refine bk ?_
                     refine rg ?_
                     refine st (h := sdA) ?_
                     refine st (h := O) ?_
                     refine nl ?_
                     refine bk2 (c + 1) (_) (by exact ⟨rfl, trivial⟩) (by exact ⟨rfl, rfl, rfl, rfl, rfl, rfl, rfl, rfl, trivial⟩) (by exact ⟨rfl, rfl, rfl, rfl, rfl, rfl, trivial⟩) ?_ ?_
                     · omega
                     · refine ⟨by omega, ?_⟩
                       have hu : updB l x (tabD l x k) a1 (a1 + m) (bRow l x (tabD l x k) a1 m) c = (((a1 + m : Nat) : Int), cstB l x (tabD l x k) a1 (a1 + m) c) := by unfold updB; rw [if_pos (.inr (hB ▸ c8))]
                       refine hT2.upd hc (by omega) (by omega) ?_ (fun c' h1 h2 => ?_)
                       · rw [if_pos (by omega), hu]
                       · by_cases h : c' < c
                         · rw [if_pos (by omega), if_pos h]
                         · rw [if_neg (by omega), if_neg h]
                    ·refine sk ?_
                     refine bk ?_
                     refine rg ?_
                     refine st (h := sdA) ?_
                     refine st (h := O) ?_
                     refine nl ?_
                     refine bk2 (c + 1) (_) (by exact ⟨rfl, trivial⟩) (by exact ⟨rfl, rfl, rfl, rfl, rfl, rfl, rfl, rfl, trivial⟩) (by exact ⟨rfl, rfl, rfl, rfl, rfl, rfl, trivial⟩) ?_ ?_
                     · omega
                     · refine ⟨by omega, ?_⟩
                       have hu : updB l x (tabD l x k) a1 (a1 + m) (bRow l x (tabD l x k) a1 m) c = bRow l x (tabD l x k) a1 m c := by
                         unfold updB
                         rw [if_neg (by rintro (h | h); · exact g130 (hA.trans h)
                                        · exact c8 (by rw [hB]; exact h))]
                       refine hT2.cong fun c' h1 => ?_
                       by_cases h2 : c' = c
                       · subst h2; rw [if_pos (by omega), if_neg (by omega), hu]
                       · by_cases h : c' < c
                         · rw [if_pos (by omega), if_pos h]
                         · rw [if_neg (by omega), if_neg h]
                  ·have hcst : demD l x (judD l x a1 (a1 + m)).bad (judD l x a1 (a1 + m)).cls c ((a1 : Int) - 1) (a1 + m : Nat) = cstB l x (tabD l x k) a1 (a1 + m) c := by
                     unfold cstB; rw [if_neg (by omega), Int.add_zero]
                   refine sk ?_
                   refine sq ?_
                   rw [hcst]
                   have hA : T2 (0 + ((a1 : Int) - 1 + 1).toNat * 8 + 0 + (c : Int).toNat * 1) = (bRow l x (tabD l x k) a1 m c).1 := by
                     rw [hT2.at (i := a1) (c := c) (by omega) (by omega) (by omega)]
                     simp [setR]
                   have hB : T2 (0 + ((a1 : Int) - 1 + 1).toNat * 8 + 4 + (c : Int).toNat * 1) = (bRow l x (tabD l x k) a1 m c).2 := by
                     rw [hT2.at4 (i := a1) (c := c) (by omega) (by omega) (by omega)]
                     simp [setR]
                   refine rg ?_
                   iterate 3 (refine st (h := O) ?_)
                   refine st (h := sdFA) ?_
                   refine st (h := (sdXA (z := 1))) ?_
                   refine st (h := (by first | exact sdLG | exact sdW)) ?_
                   iterate 2 (refine st (h := O) ?_)
                   refine gD (fun g130 => ?_) (fun g130 => ?_)
                   ·refine sp ?_
                    iterate 7 (refine sp ?_)
                    refine st (h := O) ?_
                    refine nl ?_
                    refine cT ?_
                    refine dr 9 [35, 13, 3] [0, 1, 2002, 2003, 4, 2005, 2006, 2007, 8, 2010, 2011, 1009, 2012, 1013] ?_
                    iterate 2 (refine dt (hv := by exact O) ?_)
                    iterate 2 (refine dq (hv := by exact fun _ _ => O) ?_)
                    refine dt (hv := by exact O) ?_
                    iterate 2 (refine dq (hv := by exact fun _ _ => O) ?_)
                    refine dq (hv := by exact fun _ _ => sdFA) ?_
                    refine dt (hv := by exact (sdXA (z := 1))) ?_
                    refine dq (hv := by exact fun _ _ => O) ?_
                    refine dq (hv := by exact fun _ _ => sdFA) ?_
                    first | refine dsoG ?_ | refine dso (hkp := by first | exact Kept.all | exact Kept.k0 | exact Kept.kY | exact Kept.kYY | exact Kept.kY3) ?_
                    refine dq (hv := by exact fun _ _ => (sdXA (z := 1))) ?_
                    first | refine dsoG ?_ | refine dso (hkp := by first | exact Kept.all | exact Kept.k0 | exact Kept.kY | exact Kept.kYY | exact Kept.kY3) ?_
                    refine dn ?_
                    refine bk ?_
                    refine rg ?_
                    refine st (h := sdA) ?_
                    refine st (h := O) ?_
                    refine nl ?_
                    refine bk2 (c + 1) (_) (by exact ⟨rfl, trivial⟩) (by exact ⟨rfl, rfl, rfl, rfl, rfl, rfl, rfl, rfl, trivial⟩) (by exact ⟨rfl, rfl, rfl, rfl, rfl, rfl, trivial⟩) ?_ ?_
                    · omega
                    · refine ⟨by omega, ?_⟩
                      have hu : updB l x (tabD l x k) a1 (a1 + m) (bRow l x (tabD l x k) a1 m) c = (((a1 + m : Nat) : Int), cstB l x (tabD l x k) a1 (a1 + m) c) := by unfold updB; rw [if_pos (.inl (hA ▸ g130))]
                      refine hT2.upd hc (by omega) (by omega) ?_ (fun c' h1 h2 => ?_)
                      · rw [if_pos (by omega), hu]
                      · by_cases h : c' < c
                        · rw [if_pos (by omega), if_pos h]
                        · rw [if_neg (by omega), if_neg h]
                   ·refine sg (h := O) ?_
                    iterate 3 (refine sg (h := O) ?_)
                    refine sg (h := sdFA) ?_
                    refine sg (h := (sdXA (z := 1))) ?_
                    refine sg (h := (by first | exact sdLG | exact sdW)) ?_
                    refine sg (h := O) ?_
                    refine st (h := O) ?_
                    refine nl ?_
                    refine cD (fun c8 => ?_) (fun c8 => ?_)
                    ·refine dr 9 [35, 13, 3] [0, 1, 2002, 2003, 4, 2005, 2006, 2007, 8, 2010, 2011, 1009, 2012, 1013] ?_
                     iterate 2 (refine dt (hv := by exact O) ?_)
                     iterate 2 (refine dq (hv := by exact fun _ _ => O) ?_)
                     refine dt (hv := by exact O) ?_
                     iterate 2 (refine dq (hv := by exact fun _ _ => O) ?_)
                     refine dq (hv := by exact fun _ _ => sdFA) ?_
                     refine dt (hv := by exact (sdXA (z := 1))) ?_
                     refine dq (hv := by exact fun _ _ => O) ?_
                     refine dq (hv := by exact fun _ _ => sdFA) ?_
                     first | refine dsoG ?_ | refine dso (hkp := by first | exact Kept.all | exact Kept.k0 | exact Kept.kY | exact Kept.kYY | exact Kept.kY3) ?_
                     refine dq (hv := by exact fun _ _ => (sdXA (z := 1))) ?_
                     first | refine dsoG ?_ | refine dso (hkp := by first | exact Kept.all | exact Kept.k0 | exact Kept.kY | exact Kept.kYY | exact Kept.kY3) ?_
                     refine dn ?_
                     refine bk ?_
                     refine rg ?_
                     refine st (h := sdA) ?_
                     refine st (h := O) ?_
                     refine nl ?_
                     refine bk2 (c + 1) (_) (by exact ⟨rfl, trivial⟩) (by exact ⟨rfl, rfl, rfl, rfl, rfl, rfl, rfl, rfl, trivial⟩) (by exact ⟨rfl, rfl, rfl, rfl, rfl, rfl, trivial⟩) ?_ ?_
                     · omega
                     · refine ⟨by omega, ?_⟩
                       have hu : updB l x (tabD l x k) a1 (a1 + m) (bRow l x (tabD l x k) a1 m) c = (((a1 + m : Nat) : Int), cstB l x (tabD l x k) a1 (a1 + m) c) := by unfold updB; rw [if_pos (.inr (hB ▸ c8))]
                       refine hT2.upd hc (by omega) (by omega) ?_ (fun c' h1 h2 => ?_)
                       · rw [if_pos (by omega), hu]
                       · by_cases h : c' < c
                         · rw [if_pos (by omega), if_pos h]
                         · rw [if_neg (by omega), if_neg h]
                    ·refine sk ?_
                     refine bk ?_
                     refine rg ?_
                     refine st (h := sdA) ?_
                     refine st (h := O) ?_
                     refine nl ?_
                     refine bk2 (c + 1) (_) (by exact ⟨rfl, trivial⟩) (by exact ⟨rfl, rfl, rfl, rfl, rfl, rfl, rfl, rfl, trivial⟩) (by exact ⟨rfl, rfl, rfl, rfl, rfl, rfl, trivial⟩) ?_ ?_
                     · omega
                     · refine ⟨by omega, ?_⟩
                       have hu : updB l x (tabD l x k) a1 (a1 + m) (bRow l x (tabD l x k) a1 m) c = bRow l x (tabD l x k) a1 m c := by
                         unfold updB
                         rw [if_neg (by rintro (h | h); · exact g130 (hA.trans h)
                                        · exact c8 (by rw [hB]; exact h))]
                       refine hT2.cong fun c' h1 => ?_
                       by_cases h2 : c' = c
                       · subst h2; rw [if_pos (by omega), if_neg (by omega), hu]
                       · by_cases h : c' < c
                         · rw [if_pos (by omega), if_pos h]
                         · rw [if_neg (by omega), if_neg h]
                 ·refine ex ?_
                  refine bk ?_
                  refine rg ?_
                  refine st (h := O) ?_
                  refine st (h := sdA) ?_
                  refine st (h := O) ?_
                  refine nl ?_
                  refine bk2 (_) (_) (by exact ⟨rfl, trivial⟩) (by exact ⟨rfl, rfl, rfl, rfl, rfl, rfl, trivial⟩) (by exact ⟨rfl, rfl, rfl, rfl, trivial⟩) ?_ ?_
                  · omega
                  · obtain rfl : c = 4 := by omega
                    refine ⟨by omega, by omega, ?_⟩
                    rw [show (((a1 + m : Nat) : Int) + 1 - a1).toNat = m + 1 from by omega, bRow, if_pos hok]
                    exact hT2.cong fun c' hc' => (by rw [if_pos hc'])
              ·have hok : okB l x (tabD l x k) a1 (a1 + m) = true := by
                 simp only [okB, Bool.and_eq_true, Bool.or_eq_true, Bool.not_eq_true', decide_eq_false_iff_not]
                 exact ⟨of_not c4, of_not g82, .inl (by omega)⟩
               iterate 10 (refine dp ?_)
               refine dg (hv := by exact O) ?_
               refine dt (hv := by exact O) ?_
               refine dn ?_
               refine cF ?_
               refine sk ?_
               refine sq ?_
               refine rg ?_
               refine st (h := O) ?_
               refine nl ?_
               refine bl ?_
               refine J.loop2 (α := Nat) (β := Nat → Int) (fun c T2 => c ≤ 4 ∧ TB l T2 (setR (tabD l x k) a1 (fun c' => if c' < c then updB l x (tabD l x k) a1 (a1 + m) (bRow l x (tabD l x k) a1 m) c' else bRow l x (tabD l x k) a1 m c'))) (fun c T2 => [(99, .int .i64 c)]) [(3, _), (7, _), (8, _), (9, _), (10, _), (11, _), (12, _), (13, _)] (fun c T2 => [(35, { elem := 96, cs := gI T2 (l.length * 8), room := l.length * 8, flat := true })]) [(13, _), (3, _)] (fun c T2 => 4 - c) (0) (_) (by exact ⟨rfl, trivial⟩) (by exact ⟨rfl, rfl, rfl, rfl, rfl, rfl, rfl, rfl, trivial⟩) (by exact ⟨rfl, rfl, rfl, rfl, rfl, rfl, trivial⟩) ?_ ?_
               · refine ⟨by omega, ?_⟩
                 exact hT'.cong fun c' hc' => (by rw [if_neg (by omega)])
               ·intro c T2 L1 K1 e1 e2 hI
                dsimp only [apV, apR, List.cons_append, List.nil_append] at e1 e2
                subst e1 e2
                obtain ⟨hc4, hT2⟩ := hI
                refine sq ?_
                refine rg ?_
                refine st (h := O) ?_
                refine nl ?_
                refine sq ?_
                refine cD (fun c6 => ?_) (fun c6 => ?_)
                ·have hc : c < 4 := by omega
                 refine sk ?_
                 refine sq ?_
                 refine bl ?_
                 refine sq ?_
                 refine rg ?_
                 iterate 2 (refine st (h := O) ?_)
                 refine nl ?_
                 refine sq ?_
                 refine rg ?_
                 refine st (h := O) ?_
                 refine st (h := sdLN) ?_
                 iterate 3 (refine st (h := O) ?_)
                 refine st (h := sdLN) ?_
                 refine cl (h := by exact fun ι hV hl => hDm _ (hp.le hl) _ _ _ _ _ _ _ _ _ (by omega) (by omega)) ?_
                 refine st (h := O) ?_
                 refine nl ?_
                 iterate 2 (refine sq ?_)
                 refine rg ?_
                 iterate 3 (refine st (h := O) ?_)
                 refine nl ?_
                 refine cD (fun c7 => ?_) (fun c7 => ?_)
                 ·have hTc : T2 (0 + (((a1 + m : Nat) : Int) + 1).toNat * 8 + 4 + (judD l x a1 (a1 + m)).cls.toNat * 1) = (tabD l x k (a1 + m + 1) (judD l x a1 (a1 + m)).cls.toNat).2 := by
                    rw [hT2.at4 (i := a1 + m + 1) (c := (judD l x a1 (a1 + m)).cls.toNat) (by omega) (by omega) (by omega)]
                    simp only [setR]
                    rw [if_neg (by omega)]
                  have htb := htk (a1 + m + 1) (judD l x a1 (a1 + m)).cls.toNat (by omega)
                  have htb1 := htb.cl
                  have htb2 := htb.ch
                  have hdb := demD_bd l x (judD l x a1 (a1 + m)).bad (judD l x a1 (a1 + m)).cls c ((a1 : Int) - 1) (a1 + m : Nat)
                  have hcst : demD l x (judD l x a1 (a1 + m)).bad (judD l x a1 (a1 + m)).cls c ((a1 : Int) - 1) (a1 + m : Nat) + T2 (0 + (((a1 + m : Nat) : Int) + 1).toNat * 8 + 4 + (judD l x a1 (a1 + m)).cls.toNat * 1) = cstB l x (tabD l x k) a1 (a1 + m) c := by
                    rw [hTc]; unfold cstB; rw [if_pos (by omega)]
                  refine dr 12 [35, 13, 3] [0, 1, 2, 3, 4, 5, 6, 7, 8, 9, 10, 11] ?_
                  iterate 3 (refine dt (hv := by exact O) ?_)
                  refine dt (hv := by exact sdA) ?_
                  refine dt (hv := by exact sdFA) ?_
                  refine dt (hv := by exact sdL) ?_
                  refine dt (hv := by exact (sdX (z := 8))) ?_
                  refine dt (hv := by exact sdFA) ?_
                  refine dt (hv := by exact (sdXA (z := 1))) ?_
                  refine dt (hv := by exact (by first | exact sdLG | exact sdW)) ?_
                  refine dt (hv := by exact sdA) ?_
                  refine dt (hv := by exact O) ?_
                  refine dn ?_
                  refine sq ?_
                  rw [hcst]
                  have hA : T2 (0 + ((a1 : Int) - 1 + 1).toNat * 8 + 0 + (c : Int).toNat * 1) = (bRow l x (tabD l x k) a1 m c).1 := by
                    rw [hT2.at (i := a1) (c := c) (by omega) (by omega) (by omega)]
                    simp [setR]
                  have hB : T2 (0 + ((a1 : Int) - 1 + 1).toNat * 8 + 4 + (c : Int).toNat * 1) = (bRow l x (tabD l x k) a1 m c).2 := by
                    rw [hT2.at4 (i := a1) (c := c) (by omega) (by omega) (by omega)]
                    simp [setR]
                  refine rg ?_
                  iterate 3 (refine st (h := O) ?_)
                  refine st (h := sdFA) ?_
                  refine st (h := (sdXA (z := 1))) ?_
                  refine st (h := (by first | exact sdLG | exact sdW)) ?_
                  iterate 2 (refine st (h := O) ?_)
                  refine gD (fun g130 => ?_) (fun g130 => ?_)
                  ·refine sp ?_
                   iterate 7 (refine sp ?_)
                   refine st (h := O) ?_
                   refine nl ?_
                   refine cT ?_
                   refine dr 9 [35, 13, 3] [0, 1, 2002, 2003, 4, 2005, 2006, 2007, 8, 2010, 2011, 1009, 2012, 1013] ?_
                   iterate 2 (refine dt (hv := by exact O) ?_)
                   iterate 2 (refine dq (hv := by exact fun _ _ => O) ?_)
                   refine dt (hv := by exact O) ?_
                   iterate 2 (refine dq (hv := by exact fun _ _ => O) ?_)
                   refine dq (hv := by exact fun _ _ => sdFA) ?_
                   refine dt (hv := by exact (sdXA (z := 1))) ?_
                   refine dq (hv := by exact fun _ _ => O) ?_
                   refine dq (hv := by exact fun _ _ => sdFA) ?_
                   first | refine dsoG ?_ | refine dso (hkp := by first | exact Kept.all | exact Kept.k0 | exact Kept.kY | exact Kept.kYY | exact Kept.kY3) ?_
                   refine dq (hv := by exact fun _ _ => (sdXA (z := 1))) ?_
                   first | refine dsoG ?_ | refine dso (hkp := by first | exact Kept.all | exact Kept.k0 | exact Kept.kY | exact Kept.kYY | exact Kept.kY3) ?_
                   refine dn ?_
                   refine bk ?_
                   refine rg ?_
                   refine st (h := sdA) ?_
                   refine st (h := O) ?_
                   refine nl ?_
                   refine bk2 (c + 1) (_) (by exact ⟨rfl, trivial⟩) (by exact ⟨rfl, rfl, rfl, rfl, rfl, rfl, rfl, rfl, trivial⟩) (by exact ⟨rfl, rfl, rfl, rfl, rfl, rfl, trivial⟩) ?_ ?_
                   · omega
                   · refine ⟨by omega, ?_⟩
                     have hu : updB l x (tabD l x k) a1 (a1 + m) (bRow l x (tabD l x k) a1 m) c = (((a1 + m : Nat) : Int), cstB l x (tabD l x k) a1 (a1 + m) c) := by unfold updB; rw [if_pos (.inl (hA ▸ g130))]
                     refine hT2.upd hc (by omega) (by omega) ?_ (fun c' h1 h2 => ?_)
                     · rw [if_pos (by omega), hu]
                     · by_cases h : c' < c
                       · rw [if_pos (by omega), if_pos h]
                       · rw [if_neg (by omega), if_neg h]
                  ·refine sg (h := O) ?_
                   iterate 3 (refine sg (h := O) ?_)
                   refine sg (h := sdFA) ?_
                   refine sg (h := (sdXA (z := 1))) ?_
                   refine sg (h := (by first | exact sdLG | exact sdW)) ?_
                   refine sg (h := O) ?_
                   refine st (h := O) ?_
                   refine nl ?_
                   refine cD (fun c8 => ?_) (fun c8 => ?_)
                   ·refine dr 9 [35, 13, 3] [0, 1, 2002, 2003, 4, 2005, 2006, 2007, 8, 2010, 2011, 1009, 2012, 1013] ?_
                    iterate 2 (refine dt (hv := by exact O) ?_)
                    iterate 2 (refine dq (hv := by exact fun _ _ => O) ?_)
                    refine dt (hv := by exact O) ?_
                    iterate 2 (refine dq (hv := by exact fun _ _ => O) ?_)
                    refine dq (hv := by exact fun _ _ => sdFA) ?_
                    refine dt (hv := by exact (sdXA (z := 1))) ?_
                    refine dq (hv := by exact fun _ _ => O) ?_
                    refine dq (hv := by exact fun _ _ => sdFA) ?_
                    first | refine dsoG ?_ | refine dso (hkp := by first | exact Kept.all | exact Kept.k0 | exact Kept.kY | exact Kept.kYY | exact Kept.kY3) ?_
                    refine dq (hv := by exact fun _ _ => (sdXA (z := 1))) ?_
                    first | refine dsoG ?_ | refine dso (hkp := by first | exact Kept.all | exact Kept.k0 | exact Kept.kY | exact Kept.kYY | exact Kept.kY3) ?_
                    refine dn ?_
                    refine bk ?_
                    refine rg ?_
                    refine st (h := sdA) ?_
                    refine st (h := O) ?_
                    refine nl ?_
                    refine bk2 (c + 1) (_) (by exact ⟨rfl, trivial⟩) (by exact ⟨rfl, rfl, rfl, rfl, rfl, rfl, rfl, rfl, trivial⟩) (by exact ⟨rfl, rfl, rfl, rfl, rfl, rfl, trivial⟩) ?_ ?_
                    · omega
                    · refine ⟨by omega, ?_⟩
                      have hu : updB l x (tabD l x k) a1 (a1 + m) (bRow l x (tabD l x k) a1 m) c = (((a1 + m : Nat) : Int), cstB l x (tabD l x k) a1 (a1 + m) c) := by unfold updB; rw [if_pos (.inr (hB ▸ c8))]
                      refine hT2.upd hc (by omega) (by omega) ?_ (fun c' h1 h2 => ?_)
                      · rw [if_pos (by omega), hu]
                      · by_cases h : c' < c
                        · rw [if_pos (by omega), if_pos h]
                        · rw [if_neg (by omega), if_neg h]
                   ·refine sk ?_
                    refine bk ?_
                    refine rg ?_
                    refine st (h := sdA) ?_
                    refine st (h := O) ?_
                    refine nl ?_
                    refine bk2 (c + 1) (_) (by exact ⟨rfl, trivial⟩) (by exact ⟨rfl, rfl, rfl, rfl, rfl, rfl, rfl, rfl, trivial⟩) (by exact ⟨rfl, rfl, rfl, rfl, rfl, rfl, trivial⟩) ?_ ?_
                    · omega
                    · refine ⟨by omega, ?_⟩
                      have hu : updB l x (tabD l x k) a1 (a1 + m) (bRow l x (tabD l x k) a1 m) c = bRow l x (tabD l x k) a1 m c := by
                        unfold updB
                        rw [if_neg (by rintro (h | h); · exact g130 (hA.trans h)
                                       · exact c8 (by rw [hB]; exact h))]
                      refine hT2.cong fun c' h1 => ?_
                      by_cases h2 : c' = c
                      · subst h2; rw [if_pos (by omega), if_neg (by omega), hu]
                      · by_cases h : c' < c
                        · rw [if_pos (by omega), if_pos h]
                        · rw [if_neg (by omega), if_neg h]
                 ·have hcst : demD l x (judD l x a1 (a1 + m)).bad (judD l x a1 (a1 + m)).cls c ((a1 : Int) - 1) (a1 + m : Nat) = cstB l x (tabD l x k) a1 (a1 + m) c := by
                    unfold cstB; rw [if_neg (by omega), Int.add_zero]
                  refine sk ?_
                  refine sq ?_
                  rw [hcst]
                  have hA : T2 (0 + ((a1 : Int) - 1 + 1).toNat * 8 + 0 + (c : Int).toNat * 1) = (bRow l x (tabD l x k) a1 m c).1 := by
                    rw [hT2.at (i := a1) (c := c) (by omega) (by omega) (by omega)]
                    simp [setR]
                  have hB : T2 (0 + ((a1 : Int) - 1 + 1).toNat * 8 + 4 + (c : Int).toNat * 1) = (bRow l x (tabD l x k) a1 m c).2 := by
                    rw [hT2.at4 (i := a1) (c := c) (by omega) (by omega) (by omega)]
                    simp [setR]
                  refine rg ?_
                  iterate 3 (refine st (h := O) ?_)
                  refine st (h := sdFA) ?_
                  refine st (h := (sdXA (z := 1))) ?_
                  refine st (h := (by first | exact sdLG | exact sdW)) ?_
                  iterate 2 (refine st (h := O) ?_)
                  refine gD (fun g130 => ?_) (fun g130 => ?_)
                  ·refine sp ?_
                   iterate 7 (refine sp ?_)
                   refine st (h := O) ?_
                   refine nl ?_
                   refine cT ?_
                   refine dr 9 [35, 13, 3] [0, 1, 2002, 2003, 4, 2005, 2006, 2007, 8, 2010, 2011, 1009, 2012, 1013] ?_
                   iterate 2 (refine dt (hv := by exact O) ?_)
                   iterate 2 (refine dq (hv := by exact fun _ _ => O) ?_)
                   refine dt (hv := by exact O) ?_
                   iterate 2 (refine dq (hv := by exact fun _ _ => O) ?_)
                   refine dq (hv := by exact fun _ _ => sdFA) ?_
                   refine dt (hv := by exact (sdXA (z := 1))) ?_
                   refine dq (hv := by exact fun _ _ => O) ?_
                   refine dq (hv := by exact fun _ _ => sdFA) ?_
                   first | refine dsoG ?_ | refine dso (hkp := by first | exact Kept.all | exact Kept.k0 | exact Kept.kY | exact Kept.kYY | exact Kept.kY3) ?_
                   refine dq (hv := by exact fun _ _ => (sdXA (z := 1))) ?_
                   first | refine dsoG ?_ | refine dso (hkp := by first | exact Kept.all | exact Kept.k0 | exact Kept.kY | exact Kept.kYY | exact Kept.kY3) ?_
                   refine dn ?_
                   refine bk ?_
                   refine rg ?_
                   refine st (h := sdA) ?_
                   refine st (h := O) ?_
                   refine nl ?_
                   refine bk2 (c + 1) (_) (by exact ⟨rfl, trivial⟩) (by exact ⟨rfl, rfl, rfl, rfl, rfl, rfl, rfl, rfl, trivial⟩) (by exact ⟨rfl, rfl, rfl, rfl, rfl, rfl, trivial⟩) ?_ ?_
                   · omega
                   · refine ⟨by omega, ?_⟩
                     have hu : updB l x (tabD l x k) a1 (a1 + m) (bRow l x (tabD l x k) a1 m) c = (((a1 + m : Nat) : Int), cstB l x (tabD l x k) a1 (a1 + m) c) := by unfold updB; rw [if_pos (.inl (hA ▸ g130))]
                     refine hT2.upd hc (by omega) (by omega) ?_ (fun c' h1 h2 => ?_)
                     · rw [if_pos (by omega), hu]
                     · by_cases h : c' < c
                       · rw [if_pos (by omega), if_pos h]
                       · rw [if_neg (by omega), if_neg h]
                  ·refine sg (h := O) ?_
                   iterate 3 (refine sg (h := O) ?_)
                   refine sg (h := sdFA) ?_
                   refine sg (h := (sdXA (z := 1))) ?_
                   refine sg (h := (by first | exact sdLG | exact sdW)) ?_
                   refine sg (h := O) ?_
                   refine st (h := O) ?_
                   refine nl ?_
                   refine cD (fun c8 => ?_) (fun c8 => ?_)
                   ·refine dr 9 [35, 13, 3] [0, 1, 2002, 2003, 4, 2005, 2006, 2007, 8, 2010, 2011, 1009, 2012, 1013] ?_
                    iterate 2 (refine dt (hv := by exact O) ?_)
                    iterate 2 (refine dq (hv := by exact fun _ _ => O) ?_)
                    refine dt (hv := by exact O) ?_
                    iterate 2 (refine dq (hv := by exact fun _ _ => O) ?_)
                    refine dq (hv := by exact fun _ _ => sdFA) ?_
                    refine dt (hv := by exact (sdXA (z := 1))) ?_
                    refine dq (hv := by exact fun _ _ => O) ?_
                    refine dq (hv := by exact fun _ _ => sdFA) ?_
                    first | refine dsoG ?_ | refine dso (hkp := by first | exact Kept.all | exact Kept.k0 | exact Kept.kY | exact Kept.kYY | exact Kept.kY3) ?_
                    refine dq (hv := by exact fun _ _ => (sdXA (z := 1))) ?_
                    first | refine dsoG ?_ | refine dso (hkp := by first | exact Kept.all | exact Kept.k0 | exact Kept.kY | exact Kept.kYY | exact Kept.kY3) ?_
                    refine dn ?_
                    refine bk ?_
                    refine rg ?_
                    refine st (h := sdA) ?_
                    refine st (h := O) ?_
                    refine nl ?_
                    refine bk2 (c + 1) (_) (by exact ⟨rfl, trivial⟩) (by exact ⟨rfl, rfl, rfl, rfl, rfl, rfl, rfl, rfl, trivial⟩) (by exact ⟨rfl, rfl, rfl, rfl, rfl, rfl, trivial⟩) ?_ ?_
                    · omega
                    · refine ⟨by omega, ?_⟩
                      have hu : updB l x (tabD l x k) a1 (a1 + m) (bRow l x (tabD l x k) a1 m) c = (((a1 + m : Nat) : Int), cstB l x (tabD l x k) a1 (a1 + m) c) := by unfold updB; rw [if_pos (.inr (hB ▸ c8))]
                      refine hT2.upd hc (by omega) (by omega) ?_ (fun c' h1 h2 => ?_)
                      · rw [if_pos (by omega), hu]
                      · by_cases h : c' < c
                        · rw [if_pos (by omega), if_pos h]
                        · rw [if_neg (by omega), if_neg h]
                   ·refine sk ?_
                    refine bk ?_
                    refine rg ?_
                    refine st (h := sdA) ?_
                    refine st (h := O) ?_
                    refine nl ?_
                    refine bk2 (c + 1) (_) (by exact ⟨rfl, trivial⟩) (by exact ⟨rfl, rfl, rfl, rfl, rfl, rfl, rfl, rfl, trivial⟩) (by exact ⟨rfl, rfl, rfl, rfl, rfl, rfl, trivial⟩) ?_ ?_
                    · omega
                    · refine ⟨by omega, ?_⟩
                      have hu : updB l x (tabD l x k) a1 (a1 + m) (bRow l x (tabD l x k) a1 m) c = bRow l x (tabD l x k) a1 m c := by
                        unfold updB
                        rw [if_neg (by rintro (h | h); · exact g130 (hA.trans h)
                                       · exact c8 (by rw [hB]; exact h))]
                      refine hT2.cong fun c' h1 => ?_
                      by_cases h2 : c' = c
                      · subst h2; rw [if_pos (by omega), if_neg (by omega), hu]
                      · by_cases h : c' < c
                        · rw [if_pos (by omega), if_pos h]
                        · rw [if_neg (by omega), if_neg h]
                ·refine ex ?_
                 refine bk ?_
                 refine rg ?_
                 refine st (h := O) ?_
                 refine st (h := sdA) ?_
                 refine st (h := O) ?_
                 refine nl ?_
                 refine bk2 (_) (_) (by exact ⟨rfl, trivial⟩) (by exact ⟨rfl, rfl, rfl, rfl, rfl, rfl, trivial⟩) (by exact ⟨rfl, rfl, rfl, rfl, trivial⟩) ?_ ?_
                 · omega
                 · obtain rfl : c = 4 := by omega
                   refine ⟨by omega, by omega, ?_⟩
                   rw [show (((a1 + m : Nat) : Int) + 1 - a1).toNat = m + 1 from by omega, bRow, if_pos hok]
                   exact hT2.cong fun c' hc' => (by rw [if_pos hc'])
           ·refine ex ?_
            refine bk ?_
            refine rg ?_
            refine st (h := O) ?_
            refine st (h := sdS) ?_
            refine st (h := O) ?_
            refine nl ?_
            refine bk3 (_) (k + 1) (_) (by exact ⟨rfl, trivial⟩) (by exact ⟨rfl, rfl, rfl, rfl, trivial⟩) (by exact ⟨rfl, rfl, rfl, rfl, trivial⟩) ?_ ?_
            · omega
            · have hlt : a1 = 0 ∨ legalB l ((a1 : Int) - 1) = true := by first | exact .inr (of_not c2) | exact .inl (by omega)
              refine ⟨by omega, by omega, ?_⟩
              rw [hrow hlt]
              obtain rfl : b = foA l a1 + 1 := by omega
              rwa [show ((foA l a1 : Int) + 1 - a1).toNat = foA l a1 + 1 - a1 from by omega] at hT'
        ·refine sp ?_
         iterate 3 (refine sp ?_)
         refine st (h := O) ?_
         refine nl ?_
         refine cF ?_
         refine sk ?_
         refine sq ?_
         refine rg ?_
         iterate 2 (refine st (h := O) ?_)
         refine st (h := sdA) ?_
         refine st (h := (sdX (z := 8))) ?_
         refine st (h := O) ?_
         refine nl ?_
         refine sq ?_
         refine lb ?_
         refine sq ?_
         refine rg ?_
         refine st (h := O) ?_
         refine st (h := sdA) ?_
         refine st (h := O) ?_
         refine nl ?_
         refine bl ?_
         refine J.loop2 (α := Int) (β := Nat → Int) (fun b T' => (a1 : Int) ≤ b ∧ b ≤ foA l a1 + 1 ∧ TB l T' (setR (tabD l x k) a1 (bRow l x (tabD l x k) a1 (b - a1).toNat))) (fun b T' => [(12, .int .i64 b)]) [(3, _), (7, _), (8, _), (9, _), (10, _), (11, _)] (fun b T' => [(35, { elem := 96, cs := gI T' (l.length * 8), room := l.length * 8, flat := true })]) [(3, _)] (fun b T' => (foA l a1 + 1 - b).toNat) (_) (_) (by exact ⟨rfl, trivial⟩) (by exact ⟨rfl, rfl, rfl, rfl, rfl, rfl, trivial⟩) (by exact ⟨rfl, rfl, rfl, rfl, trivial⟩) ?_ ?_
         · refine ⟨by omega, by omega, ?_⟩
           rw [show ((a1 : Int) - 1 + 1 - a1).toNat = 0 from by omega, setR_id (by rw [tabD_none (by omega)]; rfl)]
           exact hTb
         ·intro b T' L1 K1 e1 e2 hI
          dsimp only [apV, apR, List.cons_append, List.nil_append] at e1 e2
          subst e1 e2
          obtain ⟨hb0, hb1, hT'⟩ := hI
          iterate 2 (refine sq ?_)
          refine rg ?_
          iterate 3 (refine st (h := O) ?_)
          refine st (h := sdFA) ?_
          refine st (h := sdL) ?_
          refine st (h := O) ?_
          refine st (h := sdA) ?_
          refine st (h := (sdX (z := 1))) ?_
          refine st (h := (by first | exact sdLG | exact sdW)) ?_
          iterate 3 (refine st (h := O) ?_)
          refine nl ?_
          refine cD (fun c3 => ?_) (fun c3 => ?_)
          ·rw [hmin] at c3
           obtain ⟨b1, rfl⟩ := Int.eq_ofNat_of_zero_le (show (0 : Int) ≤ b by omega)
           obtain ⟨m, rfl⟩ : ∃ m, b1 = a1 + m := ⟨b1 - a1, by omega⟩
           rw [show ((a1 + m : Nat) : Int) - a1 = m from by omega, Int.toNat_natCast] at hT'
           have hbl : a1 + m < l.length := by omega
           have hj := judD_cls l x a1 (a1 + m)
           refine sk ?_
           refine sq ?_
           refine bl ?_
           iterate 2 (refine sq ?_)
           refine rg ?_
           iterate 2 (refine st (h := O) ?_)
           refine cl (h := by exact fun ι hV hl => legal_C _ _ l _ (hp.le hl).head) ?_
           refine st (h := O) ?_
           refine nl ?_
           refine cB (fun c4 => ?_) (fun c4 => ?_)
           ·refine ex ?_
            refine rg ?_
            refine st (h := O) ?_
            refine st (h := sdA) ?_
            refine st (h := O) ?_
            refine nl ?_
            refine bk2 (_) (_) (by exact ⟨rfl, trivial⟩) (by exact ⟨rfl, rfl, rfl, rfl, rfl, rfl, trivial⟩) (by exact ⟨rfl, rfl, rfl, rfl, trivial⟩) ?_ ?_
            · omega
            · refine ⟨by omega, by omega, ?_⟩
              rw [show (((a1 + m : Nat) : Int) + 1 - a1).toNat = m + 1 from by omega, bRow, if_neg (by simp only [okB, Bool.and_eq_true]; exact fun h => not_of c4 h.1)]
              exact hT'
           ·refine sk ?_
            refine sq ?_
            refine rg ?_
            iterate 3 (refine st (h := O) ?_)
            refine st (h := sdLN) ?_
            refine cl (h := by exact fun ι hV hl => hJ _ (hp.le hl) _ a1 (a1 + m) hgl hgx ha1 (by omega) (by omega)) ?_
            refine al ?_
            refine so ?_
            refine nl ?_
            iterate 2 (refine sq ?_)
            refine dr 20 [13, 35, 3] [0, 1, 2, 3, 4, 5, 6, 7, 8, 9, 10, 11, 12, 13, 14, 15, 16, 17, 18, 19] ?_
            refine dt (hv := by exact sdFA) ?_
            refine dt (hv := by exact sdL) ?_
            iterate 2 (refine dt (hv := by exact O) ?_)
            refine dgB (fun g82 => ?_) (fun g82 => ?_)
            ·refine dp ?_
             iterate 3 (refine dp ?_)
             iterate 10 (refine du ?_)
             refine dp ?_
             refine dt (hv := by exact O) ?_
             refine dn ?_
             refine cT ?_
             refine ex ?_
             refine rg ?_
             refine st (h := O) ?_
             refine st (h := sdA) ?_
             refine st (h := O) ?_
             refine nl ?_
             refine bk2 (_) (_) (by exact ⟨rfl, trivial⟩) (by exact ⟨rfl, rfl, rfl, rfl, rfl, rfl, trivial⟩) (by exact ⟨rfl, rfl, rfl, rfl, trivial⟩) ?_ ?_
             · omega
             · refine ⟨by omega, by omega, ?_⟩
               rw [show (((a1 + m : Nat) : Int) + 1 - a1).toNat = m + 1 from by omega, bRow, if_neg (by simp only [okB, Bool.and_eq_true]; exact fun h => not_of g82 h.2.1)]
               exact hT'
            ·refine dg (hv := by exact O) ?_
             iterate 3 (refine dg (hv := by exact O) ?_)
             refine dgD (fun g86 => ?_) (fun g86 => ?_)
             ·have hTn : T' (0 + (((a1 + m : Nat) : Int) + 1).toNat * 8 + 0 + (judD l x a1 (a1 + m)).cls.toNat * 1) = (tabD l x k (a1 + m + 1) (judD l x a1 (a1 + m)).cls.toNat).1 := by
                rw [hT'.at (i := a1 + m + 1) (c := (judD l x a1 (a1 + m)).cls.toNat) (by omega) (by omega) (by omega)]
                simp only [setR]
                rw [if_neg (by omega)]
              iterate 2 (refine dg (hv := by exact O) ?_)
              refine dg (hv := by exact sdA) ?_
              refine dg (hv := by exact sdFA) ?_
              refine dg (hv := by exact sdL) ?_
              refine dg (hv := by exact (sdX (z := 8))) ?_
              refine dg (hv := by exact sdFA) ?_
              refine dg (hv := by exact (sdXA (z := 1))) ?_
              refine dg (hv := by exact (by first | exact sdLG | exact sdW)) ?_
              iterate 2 (refine dg (hv := by exact O) ?_)
              refine dt (hv := by exact O) ?_
              refine dn ?_
              refine cD (fun c5 => ?_) (fun c5 => ?_)
              ·refine ex ?_
               refine rg ?_
               refine st (h := O) ?_
               refine st (h := sdA) ?_
               refine st (h := O) ?_
               refine nl ?_
               refine bk2 (_) (_) (by exact ⟨rfl, trivial⟩) (by exact ⟨rfl, rfl, rfl, rfl, rfl, rfl, trivial⟩) (by exact ⟨rfl, rfl, rfl, rfl, trivial⟩) ?_ ?_
               · omega
               · refine ⟨by omega, by omega, ?_⟩
                 rw [show (((a1 + m : Nat) : Int) + 1 - a1).toNat = m + 1 from by omega, bRow, if_neg (by
                   simp only [okB, Bool.and_eq_true, Bool.or_eq_true, Bool.not_eq_true', decide_eq_false_iff_not]
                   rintro ⟨-, -, h | h⟩
                   · omega
                   · exact h (hTn ▸ c5))]
                 exact hT'
              ·have hok : okB l x (tabD l x k) a1 (a1 + m) = true := by
                 simp only [okB, Bool.and_eq_true, Bool.or_eq_true, Bool.not_eq_true', decide_eq_false_iff_not]
                 exact ⟨of_not c4, of_not g82, .inr (fun h => c5 (hTn.trans h))⟩
               refine sk ?_
               refine sq ?_
               refine rg ?_
               refine st (h := O) ?_
               refine nl ?_
               refine bl ?_
               refine J.loop2 (α := Nat) (β := Nat → Int) (fun c T2 => c ≤ 4 ∧ TB l T2 (setR (tabD l x k) a1 (fun c' => if c' < c then updB l x (tabD l x k) a1 (a1 + m) (bRow l x (tabD l x k) a1 m) c' else bRow l x (tabD l x k) a1 m c'))) (fun c T2 => [(99, .int .i64 c)]) [(3, _), (7, _), (8, _), (9, _), (10, _), (11, _), (12, _), (13, _)] (fun c T2 => [(35, { elem := 96, cs := gI T2 (l.length * 8), room := l.length * 8, flat := true })]) [(13, _), (3, _)] (fun c T2 => 4 - c) (0) (_) (by exact ⟨rfl, trivial⟩) (by exact ⟨rfl, rfl, rfl, rfl, rfl, rfl, rfl, rfl, trivial⟩) (by exact ⟨rfl, rfl, rfl, rfl, rfl, rfl, trivial⟩) ?_ ?_
               · refine ⟨by omega, ?_⟩
                 exact hT'.cong fun c' hc' => (by rw [if_neg (by omega)])
               ·intro c T2 L1 K1 e1 e2 hI
                dsimp only [apV, apR, List.cons_append, List.nil_append] at e1 e2
                subst e1 e2
                obtain ⟨hc4, hT2⟩ := hI
                refine sq ?_
                refine rg ?_
                refine st (h := O) ?_
                refine nl ?_
                refine sq ?_
                refine cD (fun c6 => ?_) (fun c6 => ?_)
                ·have hc : c < 4 := by omega
                 refine sk ?_
                 refine sq ?_
                 refine bl ?_
                 refine sq ?_
                 refine rg ?_
                 iterate 2 (refine st (h := O) ?_)
                 refine nl ?_
                 refine sq ?_
                 refine rg ?_
                 refine st (h := O) ?_
                 refine st (h := sdLN) ?_
                 iterate 3 (refine st (h := O) ?_)
                 refine st (h := sdLN) ?_
                 refine cl (h := by exact fun ι hV hl => hDm _ (hp.le hl) _ _ _ _ _ _ _ _ _ (by omega) (by omega)) ?_
                 refine st (h := O) ?_
                 refine nl ?_
                 iterate 2 (refine sq ?_)
                 refine rg ?_
                 iterate 3 (refine st (h := O) ?_)
                 refine nl ?_
                 refine cD (fun c7 => ?_) (fun c7 => ?_)
                 ·have hTc : T2 (0 + (((a1 + m : Nat) : Int) + 1).toNat * 8 + 4 + (judD l x a1 (a1 + m)).cls.toNat * 1) = (tabD l x k (a1 + m + 1) (judD l x a1 (a1 + m)).cls.toNat).2 := by
                    rw [hT2.at4 (i := a1 + m + 1) (c := (judD l x a1 (a1 + m)).cls.toNat) (by omega) (by omega) (by omega)]
                    simp only [setR]
                    rw [if_neg (by omega)]
                  have htb := htk (a1 + m + 1) (judD l x a1 (a1 + m)).cls.toNat (by omega)
                  have htb1 := htb.cl
                  have htb2 := htb.ch
                  have hdb := demD_bd l x (judD l x a1 (a1 + m)).bad (judD l x a1 (a1 + m)).cls c ((a1 : Int) - 1) (a1 + m : Nat)
                  have hcst : demD l x (judD l x a1 (a1 + m)).bad (judD l x a1 (a1 + m)).cls c ((a1 : Int) - 1) (a1 + m : Nat) + T2 (0 + (((a1 + m : Nat) : Int) + 1).toNat * 8 + 4 + (judD l x a1 (a1 + m)).cls.toNat * 1) = cstB l x (tabD l x k) a1 (a1 + m) c := by
                    rw [hTc]; unfold cstB; rw [if_pos (by omega)]
                  refine dr 12 [35, 13, 3] [0, 1, 2, 3, 4, 5, 6, 7, 8, 9, 10, 11] ?_
                  iterate 3 (refine dt (hv := by exact O) ?_)
                  refine dt (hv := by exact sdA) ?_
                  refine dt (hv := by exact sdFA) ?_
                  refine dt (hv := by exact sdL) ?_
                  refine dt (hv := by exact (sdX (z := 8))) ?_
                  refine dt (hv := by exact sdFA) ?_
                  refine dt (hv := by exact (sdXA (z := 1))) ?_
                  refine dt (hv := by exact (by first | exact sdLG | exact sdW)) ?_
                  refine dt (hv := by exact sdA) ?_
                  refine dt (hv := by exact O) ?_
                  refine dn ?_
                  refine sq ?_
                  rw [hcst]
                  have hA : T2 (0 + ((a1 : Int) - 1 + 1).toNat * 8 + 0 + (c : Int).toNat * 1) = (bRow l x (tabD l x k) a1 m c).1 := by
                    rw [hT2.at (i := a1) (c := c) (by omega) (by omega) (by omega)]
                    simp [setR]
                  have hB : T2 (0 + ((a1 : Int) - 1 + 1).toNat * 8 + 4 + (c : Int).toNat * 1) = (bRow l x (tabD l x k) a1 m c).2 := by
                    rw [hT2.at4 (i := a1) (c := c) (by omega) (by omega) (by omega)]
                    simp [setR]
                  refine rg ?_
                  iterate 3 (refine st (h := O) ?_)
                  refine st (h := sdFA) ?_
                  refine st (h := (sdXA (z := 1))) ?_
                  refine st (h := (by first | exact sdLG | exact sdW)) ?_
                  iterate 2 (refine st (h := O) ?_)
                  refine gD (fun g130 => ?_) (fun g130 => ?_)
                  ·refine sp ?_
                   iterate 7 (refine sp ?_)
                   refine st (h := O) ?_
                   refine nl ?_
                   refine cT ?_
                   refine dr 9 [35, 13, 3] [0, 1, 2002, 2003, 4, 2005, 2006, 2007, 8, 2010, 2011, 1009, 2012, 1013] ?_
                   iterate 2 (refine dt (hv := by exact O) ?_)
                   iterate 2 (refine dq (hv := by exact fun _ _ => O) ?_)
                   refine dt (hv := by exact O) ?_
                   iterate 2 (refine dq (hv := by exact fun _ _ => O) ?_)
                   refine dq (hv := by exact fun _ _ => sdFA) ?_
                   refine dt (hv := by exact (sdXA (z := 1))) ?_
                   refine dq (hv := by exact fun _ _ => O) ?_
                   refine dq (hv := by exact fun _ _ => sdFA) ?_
                   first | refine dsoG ?_ | refine dso (hkp := by first | exact Kept.all | exact Kept.k0 | exact Kept.kY | exact Kept.kYY | exact Kept.kY3) ?_
                   refine dq (hv := by exact fun _ _ => (sdXA (z := 1))) ?_
                   first | refine dsoG ?_ | refine dso (hkp := by first | exact Kept.all | exact Kept.k0 | exact Kept.kY | exact Kept.kYY | exact Kept.kY3) ?_
                   refine dn ?_
                   refine bk ?_
                   refine rg ?_
                   refine st (h := sdA) ?_
                   refine st (h := O) ?_
                   refine nl ?_
                   refine bk2 (c + 1) (_) (by exact ⟨rfl, trivial⟩) (by exact ⟨rfl, rfl, rfl, rfl, rfl, rfl, rfl, rfl, trivial⟩) (by exact ⟨rfl, rfl, rfl, rfl, rfl, rfl, trivial⟩) ?_ ?_
                   · omega
                   · refine ⟨by omega, ?_⟩
                     have hu : updB l x (tabD l x k) a1 (a1 + m) (bRow l x (tabD l x k) a1 m) c = (((a1 + m : Nat) : Int), cstB l x (tabD l x k) a1 (a1 + m) c) := by unfold updB; rw [if_pos (.inl (hA ▸ g130))]
                     refine hT2.upd hc (by omega) (by omega) ?_ (fun c' h1 h2 => ?_)
                     · rw [if_pos (by omega), hu]
                     · by_cases h : c' < c
                       · rw [if_pos (by omega), if_pos h]
                       · rw [if_neg (by omega), if_neg h]
                  ·refine sg (h := O) ?_
                   iterate 3 (refine sg (h := O) ?_)
                   refine sg (h := sdFA) ?_
                   refine sg (h := (sdXA (z := 1))) ?_
                   refine sg (h := (by first | exact sdLG | exact sdW)) ?_
                   refine sg (h := O) ?_
                   refine st (h := O) ?_
                   refine nl ?_
                   refine cD (fun c8 => ?_) (fun c8 => ?_)
                   ·refine dr 9 [35, 13, 3] [0, 1, 2002, 2003, 4, 2005, 2006, 2007, 8, 2010, 2011, 1009, 2012, 1013] ?_
                    iterate 2 (refine dt (hv := by exact O) ?_)
                    iterate 2 (refine dq (hv := by exact fun _ _ => O) ?_)
                    refine dt (hv := by exact O) ?_
                    iterate 2 (refine dq (hv := by exact fun _ _ => O) ?_)
                    refine dq (hv := by exact fun _ _ => sdFA) ?_
                    refine dt (hv := by exact (sdXA (z := 1))) ?_
                    refine dq (hv := by exact fun _ _ => O) ?_
                    refine dq (hv := by exact fun _ _ => sdFA) ?_
                    first | refine dsoG ?_ | refine dso (hkp := by first | exact Kept.all | exact Kept.k0 | exact Kept.kY | exact Kept.kYY | exact Kept.kY3) ?_
                    refine dq (hv := by exact fun _ _ => (sdXA (z := 1))) ?_
                    first | refine dsoG ?_ | refine dso (hkp := by first | exact Kept.all | exact Kept.k0 | exact Kept.kY | exact Kept.kYY | exact Kept.kY3) ?_
                    refine dn ?_
                    refine bk ?_
                    refine rg ?_
                    refine st (h := sdA) ?_
                    refine st (h := O) ?_
                    refine nl ?_
                    refine bk2 (c + 1) (_) (by exact ⟨rfl, trivial⟩) (by exact ⟨rfl, rfl, rfl, rfl, rfl, rfl, rfl, rfl, trivial⟩) (by exact ⟨rfl, rfl, rfl, rfl, rfl, rfl, trivial⟩) ?_ ?_
                    · omega
                    · refine ⟨by omega, ?_⟩
                      have hu : updB l x (tabD l x k) a1 (a1 + m) (bRow l x (tabD l x k) a1 m) c = (((a1 + m : Nat) : Int), cstB l x (tabD l x k) a1 (a1 + m) c) := by unfold updB; rw [if_pos (.inr (hB ▸ c8))]
                      refine hT2.upd hc (by omega) (by omega) ?_ (fun c' h1 h2 => ?_)
                      · rw [if_pos (by omega), hu]
                      · by_cases h : c' < c
                        · rw [if_pos (by omega), if_pos h]
                        · rw [if_neg (by omega), if_neg h]
                   ·refine sk ?_
                    refine bk ?_
                    refine rg ?_
                    refine st (h := sdA) ?_
                    refine st (h := O) ?_
                    refine nl ?_
                    refine bk2 (c + 1) (_) (by exact ⟨rfl, trivial⟩) (by exact ⟨rfl, rfl, rfl, rfl, rfl, rfl, rfl, rfl, trivial⟩) (by exact ⟨rfl, rfl, rfl, rfl, rfl, rfl, trivial⟩) ?_ ?_
                    · omega
                    · refine ⟨by omega, ?_⟩
                      have hu : updB l x (tabD l x k) a1 (a1 + m) (bRow l x (tabD l x k) a1 m) c = bRow l x (tabD l x k) a1 m c := by
                        unfold updB
                        rw [if_neg (by rintro (h | h); · exact g130 (hA.trans h)
                                       · exact c8 (by rw [hB]; exact h))]
                      refine hT2.cong fun c' h1 => ?_
                      by_cases h2 : c' = c
                      · subst h2; rw [if_pos (by omega), if_neg (by omega), hu]
                      · by_cases h : c' < c
                        · rw [if_pos (by omega), if_pos h]
                        · rw [if_neg (by omega), if_neg h]
                 ·have hcst : demD l x (judD l x a1 (a1 + m)).bad (judD l x a1 (a1 + m)).cls c ((a1 : Int) - 1) (a1 + m : Nat) = cstB l x (tabD l x k) a1 (a1 + m) c := by
                    unfold cstB; rw [if_neg (by omega), Int.add_zero]
                  refine sk ?_
                  refine sq ?_
                  rw [hcst]
                  have hA : T2 (0 + ((a1 : Int) - 1 + 1).toNat * 8 + 0 + (c : Int).toNat * 1) = (bRow l x (tabD l x k) a1 m c).1 := by
                    rw [hT2.at (i := a1) (c := c) (by omega) (by omega) (by omega)]
                    simp [setR]
                  have hB : T2 (0 + ((a1 : Int) - 1 + 1).toNat * 8 + 4 + (c : Int).toNat * 1) = (bRow l x (tabD l x k) a1 m c).2 := by
                    rw [hT2.at4 (i := a1) (c := c) (by omega) (by omega) (by omega)]
                    simp [setR]
                  refine rg ?_
                  iterate 3 (refine st (h := O) ?_)
                  refine st (h := sdFA) ?_
                  refine st (h := (sdXA (z := 1))) ?_
                  refine st (h := (by first | exact sdLG | exact sdW)) ?_
                  iterate 2 (refine st (h := O) ?_)
                  refine gD (fun g130 => ?_) (fun g130 => ?_)
                  ·refine sp ?_
                   iterate 7 (refine sp ?_)
                   refine st (h := O) ?_
                   refine nl ?_
                   refine cT ?_
                   refine dr 9 [35, 13, 3] [0, 1, 2002, 2003, 4, 2005, 2006, 2007, 8, 2010, 2011, 1009, 2012, 1013] ?_
                   iterate 2 (refine dt (hv := by exact O) ?_)
                   iterate 2 (refine dq (hv := by exact fun _ _ => O) ?_)
                   refine dt (hv := by exact O) ?_
                   iterate 2 (refine dq (hv := by exact fun _ _ => O) ?_)
                   refine dq (hv := by exact fun _ _ => sdFA) ?_
                   refine dt (hv := by exact (sdXA (z := 1))) ?_
                   refine dq (hv := by exact fun _ _ => O) ?_
                   refine dq (hv := by exact fun _ _ => sdFA) ?_
                   first | refine dsoG ?_ | refine dso (hkp := by first | exact Kept.all | exact Kept.k0 | exact Kept.kY | exact Kept.kYY | exact Kept.kY3) ?_
                   refine dq (hv := by exact fun _ _ => (sdXA (z := 1))) ?_
                   first | refine dsoG ?_ | refine dso (hkp := by first | exact Kept.all | exact Kept.k0 | exact Kept.kY | exact Kept.kYY | exact Kept.kY3) ?_
                   refine dn ?_
                   refine bk ?_
                   refine rg ?_
                   refine st (h := sdA) ?_
                   refine st (h := O) ?_
                   refine nl ?_
                   refine bk2 (c + 1) (_) (by exact ⟨rfl, trivial⟩) (by exact ⟨rfl, rfl, rfl, rfl, rfl, rfl, rfl, rfl, trivial⟩) (by exact ⟨rfl, rfl, rfl, rfl, rfl, rfl, trivial⟩) ?_ ?_
                   · omega
                   · refine ⟨by omega, ?_⟩
                     have hu : updB l x (tabD l x k) a1 (a1 + m) (bRow l x (tabD l x k) a1 m) c = (((a1 + m : Nat) : Int), cstB l x (tabD l x k) a1 (a1 + m) c) := by unfold updB; rw [if_pos (.inl (hA ▸ g130))]
                     refine hT2.upd hc (by omega) (by omega) ?_ (fun c' h1 h2 => ?_)
                     · rw [if_pos (by omega), hu]
                     · by_cases h : c' < c
                       · rw [if_pos (by omega), if_pos h]
                       · rw [if_neg (by omega), if_neg h]
                  ·refine sg (h := O) ?_
                   iterate 3 (refine sg (h := O) ?_)
                   refine sg (h := sdFA) ?_
                   refine sg (h := (sdXA (z := 1))) ?_
                   refine sg (h := (by first | exact sdLG | exact sdW)) ?_
                   refine sg (h := O) ?_
                   refine st (h := O) ?_
                   refine nl ?_
                   refine cD (fun c8 => ?_) (fun c8 => ?_)
                   ·refine dr 9 [35, 13, 3] [0, 1, 2002, 2003, 4, 2005, 2006, 2007, 8, 2010, 2011, 1009, 2012, 1013] ?_
                    iterate 2 (refine dt (hv := by exact O) ?_)
                    iterate 2 (refine dq (hv := by exact fun _ _ => O) ?_)
                    refine dt (hv := by exact O) ?_
                    iterate 2 (refine dq (hv := by exact fun _ _ => O) ?_)
                    refine dq (hv := by exact fun _ _ => sdFA) ?_
                    refine dt (hv := by exact (sdXA (z := 1))) ?_
                    refine dq (hv := by exact fun _ _ => O) ?_
                    refine dq (hv := by exact fun _ _ => sdFA) ?_
                    first | refine dsoG ?_ | refine dso (hkp := by first | exact Kept.all | exact Kept.k0 | exact Kept.kY | exact Kept.kYY | exact Kept.kY3) ?_
                    refine dq (hv := by exact fun _ _ => (sdXA (z := 1))) ?_
                    first | refine dsoG ?_ | refine dso (hkp := by first | exact Kept.all | exact Kept.k0 | exact Kept.kY | exact Kept.kYY | exact Kept.kY3) ?_
                    refine dn ?_
                    refine bk ?_
                    refine rg ?_
                    refine st (h := sdA) ?_
                    refine st (h := O) ?_
                    refine nl ?_
                    refine bk2 (c + 1) (_) (by exact ⟨rfl, trivial⟩) (by exact ⟨rfl, rfl, rfl, rfl, rfl, rfl, rfl, rfl, trivial⟩) (by exact ⟨rfl, rfl, rfl, rfl, rfl, rfl, trivial⟩) ?_ ?_
                    · omega
                    · refine ⟨by omega, ?_⟩
                      have hu : updB l x (tabD l x k) a1 (a1 + m) (bRow l x (tabD l x k) a1 m) c = (((a1 + m : Nat) : Int), cstB l x (tabD l x k) a1 (a1 + m) c) := by unfold updB; rw [if_pos (.inr (hB ▸ c8))]
                      refine hT2.upd hc (by omega) (by omega) ?_ (fun c' h1 h2 => ?_)
                      · rw [if_pos (by omega), hu]
                      · by_cases h : c' < c
                        · rw [if_pos (by omega), if_pos h]
                        · rw [if_neg (by omega), if_neg h]
                   ·refine sk ?_
                    refine bk ?_
                    refine rg ?_
                    refine st (h := sdA) ?_
                    refine st (h := O) ?_
                    refine nl ?_
                    refine bk2 (c + 1) (_) (by exact ⟨rfl, trivial⟩) (by exact ⟨rfl, rfl, rfl, rfl, rfl, rfl, rfl, rfl, trivial⟩) (by exact ⟨rfl, rfl, rfl, rfl, rfl, rfl, trivial⟩) ?_ ?_
                    · omega
                    · refine ⟨by omega, ?_⟩
                      have hu : updB l x (tabD l x k) a1 (a1 + m) (bRow l x (tabD l x k) a1 m) c = bRow l x (tabD l x k) a1 m c := by
                        unfold updB
                        rw [if_neg (by rintro (h | h); · exact g130 (hA.trans h)
                                       · exact c8 (by rw [hB]; exact h))]
                      refine hT2.cong fun c' h1 => ?_
                      by_cases h2 : c' = c
                      · subst h2; rw [if_pos (by omega), if_neg (by omega), hu]
                      · by_cases h : c' < c
                        · rw [if_pos (by omega), if_pos h]
                        · rw [if_neg (by omega), if_neg h]
                ·refine ex ?_
                 refine bk ?_
                 refine rg ?_
                 refine st (h := O) ?_
                 refine st (h := sdA) ?_
                 refine st (h := O) ?_
                 refine nl ?_
                 refine bk2 (_) (_) (by exact ⟨rfl, trivial⟩) (by exact ⟨rfl, rfl, rfl, rfl, rfl, rfl, trivial⟩) (by exact ⟨rfl, rfl, rfl, rfl, trivial⟩) ?_ ?_
                 · omega
                 · obtain rfl : c = 4 := by omega
                   refine ⟨by omega, by omega, ?_⟩
                   rw [show (((a1 + m : Nat) : Int) + 1 - a1).toNat = m + 1 from by omega, bRow, if_pos hok]
                   exact hT2.cong fun c' hc' => (by rw [if_pos hc'])
             ·have hok : okB l x (tabD l x k) a1 (a1 + m) = true := by
                simp only [okB, Bool.and_eq_true, Bool.or_eq_true, Bool.not_eq_true', decide_eq_false_iff_not]
                exact ⟨of_not c4, of_not g82, .inl (by omega)⟩
              iterate 10 (refine dp ?_)
              refine dg (hv := by exact O) ?_
              refine dt (hv := by exact O) ?_
              refine dn ?_
              refine cF ?_
              refine sk ?_
              refine sq ?_
              refine rg ?_
              refine st (h := O) ?_
              refine nl ?_
              refine bl ?_
              refine J.loop2 (α := Nat) (β := Nat → Int) (fun c T2 => c ≤ 4 ∧ TB l T2 (setR (tabD l x k) a1 (fun c' => if c' < c then updB l x (tabD l x k) a1 (a1 + m) (bRow l x (tabD l x k) a1 m) c' else bRow l x (tabD l x k) a1 m c'))) (fun c T2 => [(99, .int .i64 c)]) [(3, _), (7, _), (8, _), (9, _), (10, _), (11, _), (12, _), (13, _)] (fun c T2 => [(35, { elem := 96, cs := gI T2 (l.length * 8), room := l.length * 8, flat := true })]) [(13, _), (3, _)] (fun c T2 => 4 - c) (0) (_) (by exact ⟨rfl, trivial⟩) (by exact ⟨rfl, rfl, rfl, rfl, rfl, rfl, rfl, rfl, trivial⟩) (by exact ⟨rfl, rfl, rfl, rfl, rfl, rfl, trivial⟩) ?_ ?_
              · refine ⟨by omega, ?_⟩
                exact hT'.cong fun c' hc' => (by rw [if_neg (by omega)])
              ·intro c T2 L1 K1 e1 e2 hI
               dsimp only [apV, apR, List.cons_append, List.nil_append] at e1 e2
               subst e1 e2
               obtain ⟨hc4, hT2⟩ := hI
               refine sq ?_
               refine rg ?_
               refine st (h := O) ?_
               refine nl ?_
               refine sq ?_
               refine cD (fun c6 => ?_) (fun c6 => ?_)
               ·have hc : c < 4 := by omega
                refine sk ?_
                refine sq ?_
                refine bl ?_
                refine sq ?_
                refine rg ?_
                iterate 2 (refine st (h := O) ?_)
                refine nl ?_
                refine sq ?_
                refine rg ?_
                refine st (h := O) ?_
                refine st (h := sdLN) ?_
                iterate 3 (refine st (h := O) ?_)
                refine st (h := sdLN) ?_
                refine cl (h := by exact fun ι hV hl => hDm _ (hp.le hl) _ _ _ _ _ _ _ _ _ (by omega) (by omega)) ?_
                refine st (h := O) ?_
                refine nl ?_
                iterate 2 (refine sq ?_)
                refine rg ?_
                iterate 3 (refine st (h := O) ?_)
                refine nl ?_
                refine cD (fun c7 => ?_) (fun c7 => ?_)
                ·have hTc : T2 (0 + (((a1 + m : Nat) : Int) + 1).toNat * 8 + 4 + (judD l x a1 (a1 + m)).cls.toNat * 1) = (tabD l x k (a1 + m + 1) (judD l x a1 (a1 + m)).cls.toNat).2 := by
                   rw [hT2.at4 (i := a1 + m + 1) (c := (judD l x a1 (a1 + m)).cls.toNat) (by omega) (by omega) (by omega)]
                   simp only [setR]
                   rw [if_neg (by omega)]
                 have htb := htk (a1 + m + 1) (judD l x a1 (a1 + m)).cls.toNat (by omega)
                 have htb1 := htb.cl
                 have htb2 := htb.ch
                 have hdb := demD_bd l x (judD l x a1 (a1 + m)).bad (judD l x a1 (a1 + m)).cls c ((a1 : Int) - 1) (a1 + m : Nat)
                 have hcst : demD l x (judD l x a1 (a1 + m)).bad (judD l x a1 (a1 + m)).cls c ((a1 : Int) - 1) (a1 + m : Nat) + T2 (0 + (((a1 + m : Nat) : Int) + 1).toNat * 8 + 4 + (judD l x a1 (a1 + m)).cls.toNat * 1) = cstB l x (tabD l x k) a1 (a1 + m) c := by
                   rw [hTc]; unfold cstB; rw [if_pos (by omega)]
                 refine dr 12 [35, 13, 3] [0, 1, 2, 3, 4, 5, 6, 7, 8, 9, 10, 11] ?_
                 iterate 3 (refine dt (hv := by exact O) ?_)
                 refine dt (hv := by exact sdA) ?_
                 refine dt (hv := by exact sdFA) ?_
                 refine dt (hv := by exact sdL) ?_
                 refine dt (hv := by exact (sdX (z := 8))) ?_
                 refine dt (hv := by exact sdFA) ?_
                 refine dt (hv := by exact (sdXA (z := 1))) ?_
                 refine dt (hv := by exact (by first | exact sdLG | exact sdW)) ?_
                 refine dt (hv := by exact sdA) ?_
                 refine dt (hv := by exact O) ?_
                 refine dn ?_
                 refine sq ?_
                 rw [hcst]
                 have hA : T2 (0 + ((a1 : Int) - 1 + 1).toNat * 8 + 0 + (c : Int).toNat * 1) = (bRow l x (tabD l x k) a1 m c).1 := by
                   rw [hT2.at (i := a1) (c := c) (by omega) (by omega) (by omega)]
                   simp [setR]
                 have hB : T2 (0 + ((a1 : Int) - 1 + 1).toNat * 8 + 4 + (c : Int).toNat * 1) = (bRow l x (tabD l x k) a1 m c).2 := by
                   rw [hT2.at4 (i := a1) (c := c) (by omega) (by omega) (by omega)]
                   simp [setR]
                 refine rg ?_
                 iterate 3 (refine st (h := O) ?_)
                 refine st (h := sdFA) ?_
                 refine st (h := (sdXA (z := 1))) ?_
                 refine st (h := (by first | exact sdLG | exact sdW)) ?_
                 iterate 2 (refine st (h := O) ?_)
                 refine gD (fun g130 => ?_) (fun g130 => ?_)
                 ·refine sp ?_
                  iterate 7 (refine sp ?_)
                  refine st (h := O) ?_
                  refine nl ?_
                  refine cT ?_
                  refine dr 9 [35, 13, 3] [0, 1, 2002, 2003, 4, 2005, 2006, 2007, 8, 2010, 2011, 1009, 2012, 1013] ?_
                  iterate 2 (refine dt (hv := by exact O) ?_)
                  iterate 2 (refine dq (hv := by exact fun _ _ => O) ?_)
                  refine dt (hv := by exact O) ?_
                  iterate 2 (refine dq (hv := by exact fun _ _ => O) ?_)
                  refine dq (hv := by exact fun _ _ => sdFA) ?_
                  refine dt (hv := by exact (sdXA (z := 1))) ?_
                  refine dq (hv := by exact fun _ _ => O) ?_
                  refine dq (hv := by exact fun _ _ => sdFA) ?_
                  first | refine dsoG ?_ | refine dso (hkp := by first | exact Kept.all | exact Kept.k0 | exact Kept.kY | exact Kept.kYY | exact Kept.kY3) ?_
                  refine dq (hv := by exact fun _ _ => (sdXA (z := 1))) ?_
                  first | refine dsoG ?_ | refine dso (hkp := by first | exact Kept.all | exact Kept.k0 | exact Kept.kY | exact Kept.kYY | exact Kept.kY3) ?_
                  refine dn ?_
                  refine bk ?_
                  refine rg ?_
                  refine st (h := sdA) ?_
                  refine st (h := O) ?_
                  refine nl ?_
                  refine bk2 (c + 1) (_) (by exact ⟨rfl, trivial⟩) (by exact ⟨rfl, rfl, rfl, rfl, rfl, rfl, rfl, rfl, trivial⟩) (by exact ⟨rfl, rfl, rfl, rfl, rfl, rfl, trivial⟩) ?_ ?_
                  · omega
                  · refine ⟨by omega, ?_⟩
                    have hu : updB l x (tabD l x k) a1 (a1 + m) (bRow l x (tabD l x k) a1 m) c = (((a1 + m : Nat) : Int), cstB l x (tabD l x k) a1 (a1 + m) c) := by unfold updB; rw [if_pos (.inl (hA ▸ g130))]
                    refine hT2.upd hc (by omega) (by omega) ?_ (fun c' h1 h2 => ?_)
                    · rw [if_pos (by omega), hu]
                    · by_cases h : c' < c
                      · rw [if_pos (by omega), if_pos h]
                      · rw [if_neg (by omega), if_neg h]
                 ·refine sg (h := O) ?_
                  iterate 3 (refine sg (h := O) ?_)
                  refine sg (h := sdFA) ?_
                  refine sg (h := (sdXA (z := 1))) ?_
                  refine sg (h := (by first | exact sdLG | exact sdW)) ?_
                  refine sg (h := O) ?_
                  refine st (h := O) ?_
                  refine nl ?_
                  refine cD (fun c8 => ?_) (fun c8 => ?_)
                  ·refine dr 9 [35, 13, 3] [0, 1, 2002, 2003, 4, 2005, 2006, 2007, 8, 2010, 2011, 1009, 2012, 1013] ?_
                   iterate 2 (refine dt (hv := by exact O) ?_)
                   iterate 2 (refine dq (hv := by exact fun _ _ => O) ?_)
                   refine dt (hv := by exact O) ?_
                   iterate 2 (refine dq (hv := by exact fun _ _ => O) ?_)
                   refine dq (hv := by exact fun _ _ => sdFA) ?_
                   refine dt (hv := by exact (sdXA (z := 1))) ?_
                   refine dq (hv := by exact fun _ _ => O) ?_
                   refine dq (hv := by exact fun _ _ => sdFA) ?_
                   first | refine dsoG ?_ | refine dso (hkp := by first | exact Kept.all | exact Kept.k0 | exact Kept.kY | exact Kept.kYY | exact Kept.kY3) ?_
                   refine dq (hv := by exact fun _ _ => (sdXA (z := 1))) ?_
                   first | refine dsoG ?_ | refine dso (hkp := by first | exact Kept.all | exact Kept.k0 | exact Kept.kY | exact Kept.kYY | exact Kept.kY3) ?_
                   refine dn ?_
                   refine bk ?_
                   refine rg ?_
                   refine st (h := sdA) ?_
                   refine st (h := O) ?_
                   refine nl ?_
                   refine bk2 (c + 1) (_) (by exact ⟨rfl, trivial⟩) (by exact ⟨rfl, rfl, rfl, rfl, rfl, rfl, rfl, rfl, trivial⟩) (by exact ⟨rfl, rfl, rfl, rfl, rfl, rfl, trivial⟩) ?_ ?_
                   · omega
                   · refine ⟨by omega, ?_⟩
                     have hu : updB l x (tabD l x k) a1 (a1 + m) (bRow l x (tabD l x k) a1 m) c = (((a1 + m : Nat) : Int), cstB l x (tabD l x k) a1 (a1 + m) c) := by unfold updB; rw [if_pos (.inr (hB ▸ c8))]
                     refine hT2.upd hc (by omega) (by omega) ?_ (fun c' h1 h2 => ?_)
                     · rw [if_pos (by omega), hu]
                     · by_cases h : c' < c
                       · rw [if_pos (by omega), if_pos h]
                       · rw [if_neg (by omega), if_neg h]
                  ·refine sk ?_
                   refine bk ?_
                   refine rg ?_
                   refine st (h := sdA) ?_
                   refine st (h := O) ?_
                   refine nl ?_
                   refine bk2 (c + 1) (_) (by exact ⟨rfl, trivial⟩) (by exact ⟨rfl, rfl, rfl, rfl, rfl, rfl, rfl, rfl, trivial⟩) (by exact ⟨rfl, rfl, rfl, rfl, rfl, rfl, trivial⟩) ?_ ?_
                   · omega
                   · refine ⟨by omega, ?_⟩
                     have hu : updB l x (tabD l x k) a1 (a1 + m) (bRow l x (tabD l x k) a1 m) c = bRow l x (tabD l x k) a1 m c := by
                       unfold updB
                       rw [if_neg (by rintro (h | h); · exact g130 (hA.trans h)
                                      · exact c8 (by rw [hB]; exact h))]
                     refine hT2.cong fun c' h1 => ?_
                     by_cases h2 : c' = c
                     · subst h2; rw [if_pos (by omega), if_neg (by omega), hu]
                     · by_cases h : c' < c
                       · rw [if_pos (by omega), if_pos h]
                       · rw [if_neg (by omega), if_neg h]
                ·have hcst : demD l x (judD l x a1 (a1 + m)).bad (judD l x a1 (a1 + m)).cls c ((a1 : Int) - 1) (a1 + m : Nat) = cstB l x (tabD l x k) a1 (a1 + m) c := by
                   unfold cstB; rw [if_neg (by omega), Int.add_zero]
                 refine sk ?_
                 refine sq ?_
                 rw [hcst]
                 have hA : T2 (0 + ((a1 : Int) - 1 + 1).toNat * 8 + 0 + (c : Int).toNat * 1) = (bRow l x (tabD l x k) a1 m c).1 := by
                   rw [hT2.at (i := a1) (c := c) (by omega) (by omega) (by omega)]
                   simp [setR]
                 have hB : T2 (0 + ((a1 : Int) - 1 + 1).toNat * 8 + 4 + (c : Int).toNat * 1) = (bRow l x (tabD l x k) a1 m c).2 := by
                   rw [hT2.at4 (i := a1) (c := c) (by omega) (by omega) (by omega)]
                   simp [setR]
                 refine rg ?_
                 iterate 3 (refine st (h := O) ?_)
                 refine st (h := sdFA) ?_
                 refine st (h := (sdXA (z := 1))) ?_
                 refine st (h := (by first | exact sdLG | exact sdW)) ?_
                 iterate 2 (refine st (h := O) ?_)
                 refine gD (fun g130 => ?_) (fun g130 => ?_)
                 ·refine sp ?_
                  iterate 7 (refine sp ?_)
                  refine st (h := O) ?_
                  refine nl ?_
                  refine cT ?_
                  refine dr 9 [35, 13, 3] [0, 1, 2002, 2003, 4, 2005, 2006, 2007, 8, 2010, 2011, 1009, 2012, 1013] ?_
                  iterate 2 (refine dt (hv := by exact O) ?_)
                  iterate 2 (refine dq (hv := by exact fun _ _ => O) ?_)
                  refine dt (hv := by exact O) ?_
                  iterate 2 (refine dq (hv := by exact fun _ _ => O) ?_)
                  refine dq (hv := by exact fun _ _ => sdFA) ?_
                  refine dt (hv := by exact (sdXA (z := 1))) ?_
                  refine dq (hv := by exact fun _ _ => O) ?_
                  refine dq (hv := by exact fun _ _ => sdFA) ?_
                  first | refine dsoG ?_ | refine dso (hkp := by first | exact Kept.all | exact Kept.k0 | exact Kept.kY | exact Kept.kYY | exact Kept.kY3) ?_
                  refine dq (hv := by exact fun _ _ => (sdXA (z := 1))) ?_
                  first | refine dsoG ?_ | refine dso (hkp := by first | exact Kept.all | exact Kept.k0 | exact Kept.kY | exact Kept.kYY | exact Kept.kY3) ?_
                  refine dn ?_
                  refine bk ?_
                  refine rg ?_
                  refine st (h := sdA) ?_
                  refine st (h := O) ?_
                  refine nl ?_
                  refine bk2 (c + 1) (_) (by exact ⟨rfl, trivial⟩) (by exact ⟨rfl, rfl, rfl, rfl, rfl, rfl, rfl, rfl, trivial⟩) (by exact ⟨rfl, rfl, rfl, rfl, rfl, rfl, trivial⟩) ?_ ?_
                  · omega
                  · refine ⟨by omega, ?_⟩
                    have hu : updB l x (tabD l x k) a1 (a1 + m) (bRow l x (tabD l x k) a1 m) c = (((a1 + m : Nat) : Int), cstB l x (tabD l x k) a1 (a1 + m) c) := by unfold updB; rw [if_pos (.inl (hA ▸ g130))]
                    refine hT2.upd hc (by omega) (by omega) ?_ (fun c' h1 h2 => ?_)
                    · rw [if_pos (by omega), hu]
                    · by_cases h : c' < c
                      · rw [if_pos (by omega), if_pos h]
                      · rw [if_neg (by omega), if_neg h]
                 ·refine sg (h := O) ?_
                  iterate 3 (refine sg (h := O) ?_)
                  refine sg (h := sdFA) ?_
                  refine sg (h := (sdXA (z := 1))) ?_
                  refine sg (h := (by first | exact sdLG | exact sdW)) ?_
                  refine sg (h := O) ?_
                  refine st (h := O) ?_
                  refine nl ?_
                  refine cD (fun c8 => ?_) (fun c8 => ?_)
                  ·refine dr 9 [35, 13, 3] [0, 1, 2002, 2003, 4, 2005, 2006, 2007, 8, 2010, 2011, 1009, 2012, 1013] ?_
                   iterate 2 (refine dt (hv := by exact O) ?_)
                   iterate 2 (refine dq (hv := by exact fun _ _ => O) ?_)
                   refine dt (hv := by exact O) ?_
                   iterate 2 (refine dq (hv := by exact fun _ _ => O) ?_)
                   refine dq (hv := by exact fun _ _ => sdFA) ?_
                   refine dt (hv := by exact (sdXA (z := 1))) ?_
                   refine dq (hv := by exact fun _ _ => O) ?_
                   refine dq (hv := by exact fun _ _ => sdFA) ?_
                   first | refine dsoG ?_ | refine dso (hkp := by first | exact Kept.all | exact Kept.k0 | exact Kept.kY | exact Kept.kYY | exact Kept.kY3) ?_
                   refine dq (hv := by exact fun _ _ => (sdXA (z := 1))) ?_
                   first | refine dsoG ?_ | refine dso (hkp := by first | exact Kept.all | exact Kept.k0 | exact Kept.kY | exact Kept.kYY | exact Kept.kY3) ?_
                   refine dn ?_
                   refine bk ?_
                   refine rg ?_
                   refine st (h := sdA) ?_
                   refine st (h := O) ?_
                   refine nl ?_
                   refine bk2 (c + 1) (_) (by exact ⟨rfl, trivial⟩) (by exact ⟨rfl, rfl, rfl, rfl, rfl, rfl, rfl, rfl, trivial⟩) (by exact ⟨rfl, rfl, rfl, rfl, rfl, rfl, trivial⟩) ?_ ?_
                   · omega
                   · refine ⟨by omega, ?_⟩
                     have hu : updB l x (tabD l x k) a1 (a1 + m) (bRow l x (tabD l x k) a1 m) c = (((a1 + m : Nat) : Int), cstB l x (tabD l x k) a1 (a1 + m) c) := by unfold updB; rw [if_pos (.inr (hB ▸ c8))]
                     refine hT2.upd hc (by omega) (by omega) ?_ (fun c' h1 h2 => ?_)
                     · rw [if_pos (by omega), hu]
                     · by_cases h : c' < c
                       · rw [if_pos (by omega), if_pos h]
                       · rw [if_neg (by omega), if_neg h]
                  ·refine sk ?_
                   refine bk ?_
                   refine rg ?_
                   refine st (h := sdA) ?_
                   refine st (h := O) ?_
                   refine nl ?_
                   refine bk2 (c + 1) (_) (by exact ⟨rfl, trivial⟩) (by exact ⟨rfl, rfl, rfl, rfl, rfl, rfl, rfl, rfl, trivial⟩) (by exact ⟨rfl, rfl, rfl, rfl, rfl, rfl, trivial⟩) ?_ ?_
                   · omega
                   · refine ⟨by omega, ?_⟩
                     have hu : updB l x (tabD l x k) a1 (a1 + m) (bRow l x (tabD l x k) a1 m) c = bRow l x (tabD l x k) a1 m c := by
                       unfold updB
                       rw [if_neg (by rintro (h | h); · exact g130 (hA.trans h)
                                      · exact c8 (by rw [hB]; exact h))]
                     refine hT2.cong fun c' h1 => ?_
                     by_cases h2 : c' = c
                     · subst h2; rw [if_pos (by omega), if_neg (by omega), hu]
                     · by_cases h : c' < c
                       · rw [if_pos (by omega), if_pos h]
                       · rw [if_neg (by omega), if_neg h]
               ·refine ex ?_
                refine bk ?_
                refine rg ?_
                refine st (h := O) ?_
                refine st (h := sdA) ?_
                refine st (h := O) ?_
                refine nl ?_
                refine bk2 (_) (_) (by exact ⟨rfl, trivial⟩) (by exact ⟨rfl, rfl, rfl, rfl, rfl, rfl, trivial⟩) (by exact ⟨rfl, rfl, rfl, rfl, trivial⟩) ?_ ?_
                · omega
                · obtain rfl : c = 4 := by omega
                  refine ⟨by omega, by omega, ?_⟩
                  rw [show (((a1 + m : Nat) : Int) + 1 - a1).toNat = m + 1 from by omega, bRow, if_pos hok]
                  exact hT2.cong fun c' hc' => (by rw [if_pos hc'])
          ·refine ex ?_
           refine bk ?_
           refine rg ?_
           refine st (h := O) ?_
           refine st (h := sdS) ?_
           refine st (h := O) ?_
           refine nl ?_
           refine bk3 (_) (k + 1) (_) (by exact ⟨rfl, trivial⟩) (by exact ⟨rfl, rfl, rfl, rfl, trivial⟩) (by exact ⟨rfl, rfl, rfl, rfl, trivial⟩) ?_ ?_
           · omega
           · have hlt : a1 = 0 ∨ legalB l ((a1 : Int) - 1) = true := by first | exact .inr (of_not c2) | exact .inl (by omega)
             refine ⟨by omega, by omega, ?_⟩
             rw [hrow hlt]
             obtain rfl : b = foA l a1 + 1 := by omega
             rwa [show ((foA l a1 : Int) + 1 - a1).toNat = foA l a1 + 1 - a1 from by omega] at hT'
       ·obtain rfl : a = -2 := by omega
        obtain rfl : k = l.length := by omega
        have hT01 : T (0 + (0 : Int).toNat * 8 + 0 + (1 : Int).toNat * 1) = (tabD l x l.length 0 1).1 := hTb.at (by omega) (by omega) (by omega)
        have hT04 : T (0 + (0 : Int).toNat * 8 + 4 + (1 : Int).toNat * 1) = (tabD l x l.length 0 1).2 := hTb.at4 (by omega) (by omega) (by omega)
        refine ex ?_
        refine sq ?_
        refine rg ?_
        refine cl (h := by exact fun ι hV hl => Class_C _ _ _ _) ?_
        rw [class0]
        refine st (h := O) ?_
        refine nl ?_
        iterate 2 (refine sq ?_)
        refine rg ?_
        iterate 2 (refine st (h := O) ?_)
        refine st (h := (sdX (z := 8))) ?_
        refine st (h := sdFA) ?_
        refine st (h := (sdXA (z := 1))) ?_
        refine st (h := (by first | exact sdLG | exact sdW)) ?_
        refine st (h := O) ?_
        refine nl ?_
        refine cD (fun c9 => ?_) (fun c9 => ?_)
        ·refine sq ?_
         refine rg ?_
         iterate 3 (refine st (h := O) ?_)
         refine nl ?_
         have hb := hno (fun h => h.2.2 (hT01 ▸ c9))
         refine J.dropF ?_
         refine rt ⟨_, ?_, .inr ⟨0, 0, rfl⟩, fun G hG => ?_⟩
         · rw [hb]
         · rw [hb]; exact .inr ⟨rfl, rfl⟩
        ·have hb := hye ⟨hgl, hgx, fun h => c9 (hT01.trans h)⟩
         refine sk ?_
         refine sq ?_
         refine rg ?_
         refine st (h := O) ?_
         refine nl ?_
         iterate 2 (refine sq ?_)
         refine rg ?_
         refine st (h := O) ?_
         refine nl ?_
         refine bl ?_
         refine J.loop5 (α := Option Nat) (β := Nat) (γ := List Value) (δ := Int) (ε := Int) (fun o m cs a cls => -1 ≤ a ∧ a < l.length ∧ apB o m ∧ (m : Int) ≤ a + 1 ∧ cs.length = m ∧ (0 ≤ cls ∧ cls ≤ 3) ∧ (a + 1 < l.length → (tabD l x l.length (a + 1).toNat cls.toNat).1 ≠ 0) ∧ ∃ xs d, cs = ivs xs ∧ l.length ≤ (a + 1).toNat + d ∧ pathB l x (tabD l x l.length) l.length 0 1 = xs ++ pathB l x (tabD l x l.length) d (a + 1).toNat cls) (fun o m cs a cls => [(16, .int .i64 cls), (17, apV 175 o m), (18, .int .i64 a)]) [(3, _), (7, _), (8, _), (9, _)] (fun o m cs a cls => apR 175 3 1 true o cs ++ []) [(35, _), (3, _)] (fun o m cs a cls => l.length - (a + 1).toNat) (none) (0) ([]) (-1) (1) (by exact ⟨rfl, rfl, rfl, trivial⟩) (by exact ⟨rfl, rfl, rfl, rfl, trivial⟩) (by exact (by repeat' first | exact trivial | refine And.intro rfl ?_)) ?_ ?_
         · exact ⟨by omega, by omega, rfl, by omega, rfl, by omega, fun _ h => c9 (hT01.trans h), [], l.length, rfl, by omega, rfl⟩
         ·intro o m cs a cls L1 K1 e1 e2 hI
          rcases o with _ | cap_o
          all_goals
           dsimp only [apV, apR, List.cons_append, List.nil_append] at e1 e2
           subst e1 e2
           obtain ⟨ha, hal, hap, hm, hcl, hcls, hnz, xs, d, rfl, hd, hpath⟩ := hI
           simp only [apB] at hap
           try (obtain rfl : m = 0 := hap; obtain rfl : xs = [] := List.eq_nil_of_length_eq_zero (by simpa [ivs] using hcl))
           iterate 2 (refine sq ?_)
           refine rg ?_
           iterate 3 (refine st (h := O) ?_)
           refine nl ?_
           refine cD (fun c10 => ?_) (fun c10 => ?_)
           ·obtain ⟨a1, ha1⟩ := Int.eq_ofNat_of_zero_le (show (0 : Int) ≤ a + 1 by omega)
            have ha1l : a1 < l.length := by omega
            have e1 : (a + 1).toNat = a1 := by omega
            rw [e1] at hnz
            obtain ⟨b, hab, hbl, hb1, hb2, hb3, hb4⟩ := tab_next hgl ha1l (hnz (by omega))
            have hTx : T (0 + (a + 1).toNat * 8 + 0 + cls.toNat * 1) = (b : Int) := by rw [← hb1]; exact hTb.at (by omega) (by omega) (by omega)
            have hj := judD_cls l x a1 b
            refine sk ?_
            refine bl ?_
            refine sq ?_
            refine rg ?_
            iterate 2 (refine st (h := O) ?_)
            refine st (h := sdA) ?_
            refine st (h := O) ?_
            refine st (h := (sdX (z := 8))) ?_
            refine st (h := sdFA) ?_
            refine st (h := (sdXA (z := 1))) ?_
            refine st (h := (by first | exact sdLG | exact sdW)) ?_
            refine st (h := O) ?_
            refine nl ?_
            refine sq ?_
            rw [hTx]
            refine rg ?_
            iterate 2 (refine st (h := O) ?_)
            refine sl ?_
            first | refine apN (news := [_]) 175 true [(3, _), (7, _), (8, _), (9, _), (18, _), (19, _)] [(35, _), (3, _)] ?_ | refine apO (news := [_]) 1175 175 [(3, _), (7, _), (8, _), (9, _), (18, _), (19, _)] [(35, _), (3, _)] ?_
            intro cap175 hc175 hd175
            refine st (h := O) ?_
            refine nl ?_
            refine rg ?_
            iterate 4 (refine st (h := O) ?_)
            refine st (h := sdLN) ?_
            refine cl (h := by exact fun ι hV hl => hJ _ (hp.le hl) _ a1 b hgl hgx ha1 (by omega) (by omega)) ?_
            iterate 3 (refine st (h := O) ?_)
            refine nl ?_
            refine bk ?_
            refine bk5 (some _) (_) (_) (_) (_) (by exact ⟨rfl, rfl, rfl, trivial⟩) (by exact ⟨rfl, rfl, rfl, rfl, trivial⟩) (by exact (by repeat' first | exact trivial | refine And.intro rfl ?_)) ?_ ?_
            · omega
            · obtain ⟨d, rfl⟩ : ∃ e, d = e + 1 := ⟨d - 1, by omega⟩
              rw [e1, pathB, if_pos ha1l, hb1, Int.toNat_natCast] at hpath
              simp only [apB, List.length_append, List.length_cons, List.length_nil]
              refine ⟨by omega, by omega, by omega, by omega, by first | trivial | omega, hj, fun h => ?_, _ ++ [_], d, by first | exact ivs_snoc _ _ | exact ivs_snoc [] _, by omega, ?_⟩
              · rw [show ((b : Int) + 1).toNat = b + 1 from by omega]; exact hb4 (by omega)
              · rw [hpath, List.append_assoc]; rfl
           ·obtain rfl : a = l.length - 1 := by omega
            refine ex ?_
            refine sq ?_
            refine dr 10 [35, 3, 175] [0, 1, 3, 4, 1002, 5, 6, 7, 8, 9] ?_
            iterate 2 (refine dt (hv := by exact O) ?_)
            refine dt (hv := by exact (sdX (z := 8))) ?_
            refine dt (hv := by exact sdFA) ?_
            refine dcl (hkp := by first | exact Kept.all | exact Kept.k0 | exact Kept.kY | exact Kept.kYY | exact Kept.kY3) (h := by exact fun ι hV hl => Class_C _ _ _ _) ?_
            rw [class0]
            refine dt (hv := by exact (sdXA (z := 1))) ?_
            refine dt (hv := by exact (by first | exact sdLG | exact sdW)) ?_
            iterate 3 (refine dt (hv := by exact O) ?_)
            refine dn ?_
            refine J.dropF ?_
            rw [hT04]
            refine rtX fun ι hV => ?_
            rw [show ((l.length : Int) - 1 + 1).toNat = l.length from by omega, pathB_end, List.append_nil] at hpath
            rw [hb, hpath]
            refine ⟨_, rfl, ?_, fun G hG => ?_⟩
            · first | exact .inr ⟨0, 0, rfl⟩ | exact .inl ⟨_, _, _, _, rfl⟩
            · first
                | exact .inr ⟨rfl, rfl⟩
                | (simp only [ivs_length] at hcl; subst hcl
                   exact hG.ivs (r := _) (ι := ι) (by repeat (first | exact List.mem_cons_self .. | apply List.mem_cons_of_mem)) rfl (by omega))
  ·
    refine C.go hT Try.func40 Try.ntmps40 ?_
    refine sq ?_
    refine rg ?_
    refine bx ?_
    iterate 3 (refine st (h := O) ?_)
    refine nl ?_
    refine sc ?_
    iterate 2 (refine sq ?_)
    refine rg ?_
    refine st (h := O) ?_
    refine cl (h := by exact fun ι hV hl => IGood_C _ _ [] (hv.le hl)) ?_
    iterate 2 (refine st (h := O) ?_)
    refine gB (fun g23 => ?_) (fun g23 => ?_)
    ·refine sp ?_
     iterate 2 (refine sp ?_)
     refine st (h := O) ?_
     refine nl ?_
     refine cT ?_
     refine sq ?_
     refine rg ?_
     iterate 3 (refine st (h := O) ?_)
     refine nl ?_
     refine rt ⟨_, ?_, .inr ⟨0, 0, rfl⟩, fun G hG => ?_⟩
     · rw [hno (fun h => not_of g23 h.1)]
     · rw [hno (fun h => not_of g23 h.1)]; exact .inr ⟨rfl, rfl⟩
    ·cases of_not g23
end Go.Proofs.Ytnkddjdmpnghmaa.Am
namespace Go.Proofs.Ytnkddjdmpnghmaa.Am
set_option linter.unusedSimpArgs false
set_option linter.unusedVariables false
set_option maxRecDepth 100000
set_option maxHeartbeats 4000000
open Go Go.RowKit
end Go.Proofs.Ytnkddjdmpnghmaa.Am
namespace Go.Proofs.Ytnkddjdmpnghmaa.Am
set_option linter.unusedSimpArgs false
set_option linter.unusedVariables false
set_option maxRecDepth 100000
set_option maxHeartbeats 4000000
open Go Go.RowKit
theorem ends_C (F : Mem) (v : Value) (l : List Item) (a b : Int) (hv : RItems F v l) : C0 Try.prog 42 [v, .int .i64 a, .int .i64 b] F (.bool ((decide (a = -1) || legalB l a) && (legalB l b && decide (a < b)))) := by
  rcases hv.forms with ⟨vb, vo, vc, rfl⟩ | ⟨rfl, rfl⟩
  all_goals
    refine C.go hT Try.func42 Try.ntmps42 ?_
    refine sq ?_
    refine rg ?_
    refine st (h := O) ?_
    refine nl ?_
    refine sq ?_
    refine rg ?_
    iterate 3 (refine st (h := O) ?_)
    refine gD (fun g9 => ?_) (fun g9 => ?_)
    ·refine sp ?_
     iterate 2 (refine sp ?_)
     iterate 2 (refine st (h := O) ?_)
     iterate 2 (refine sg (h := O) ?_)
     refine clg (h := by exact fun ι hV hl => RLegal_C _ _ _ _ (hv.le hl)) ?_
     iterate 2 (refine st (h := O) ?_)
     refine gB (fun g19 => ?_) (fun g19 => ?_)
     ·refine sg (h := O) ?_
      iterate 2 (refine sg (h := O) ?_)
      iterate 2 (refine st (h := O) ?_)
      refine nl ?_
      refine rt ⟨?_, rfl⟩
      simp_all
     ·refine sp ?_
      iterate 2 (refine sp ?_)
      iterate 2 (refine st (h := O) ?_)
      refine nl ?_
      refine rt ⟨?_, rfl⟩
      simp_all
    ·refine sg (h := O) ?_
     refine sg (h := O) ?_
     refine clg (h := by exact fun ι hV hl => RLegal_C _ _ _ _ (hv.le hl)) ?_
     iterate 2 (refine st (h := O) ?_)
     refine gB (fun g14 => ?_) (fun g14 => ?_)
     ·refine sg (h := O) ?_
      refine sg (h := O) ?_
      refine clg (h := by exact fun ι hV hl => RLegal_C _ _ _ _ (hv.le hl)) ?_
      iterate 2 (refine st (h := O) ?_)
      refine gB (fun g19 => ?_) (fun g19 => ?_)
      ·refine sg (h := O) ?_
       iterate 2 (refine sg (h := O) ?_)
       iterate 2 (refine st (h := O) ?_)
       refine nl ?_
       refine rt ⟨?_, rfl⟩
       simp_all
      ·refine sp ?_
       iterate 2 (refine sp ?_)
       iterate 2 (refine st (h := O) ?_)
       refine nl ?_
       refine rt ⟨?_, rfl⟩
       simp_all
     ·refine sp ?_
      iterate 2 (refine sp ?_)
      iterate 2 (refine st (h := O) ?_)
      iterate 3 (refine sp ?_)
      iterate 2 (refine st (h := O) ?_)
      refine nl ?_
      refine rt ⟨?_, rfl⟩
      simp_all
/-- the reference's first item of a line -/
theorem begin_eq {l : List Item} (hg : goodL l = true) : ∀ d i b, i + d = b → b ≤ l.length → beginAt l b d i = min (bgD l (l.length - i) i) b
  | 0, i, b, h, hb => by
    have := (bgD_bd l (l.length - i) i).1
    simp [beginAt]; omega
  | d + 1, i, b, h, hb => by
    have hi : i < l.length := by omega
    have hk := good_ok hg hi
    simp only [Item.ok, decide_eq_true_eq] at hk
    rw [show l.length - i = (l.length - (i + 1)) + 1 from by omega]
    simp only [beginAt, bgD]
    rw [if_pos (by omega)]
    by_cases hs : skipB (at_ l i) = true
    · rw [if_pos hs, begin_eq hg d (i + 1) b (by omega) hb]
      have h1 : ¬ forceB (at_ l i) = true := by
        simp only [skipB, forceB, Bool.or_eq_true, Bool.and_eq_true, decide_eq_true_eq] at hs ⊢
        omega
      have h2 : ¬ (at_ l i).kind = 1 := by
        simp only [skipB, Bool.or_eq_true, Bool.and_eq_true, decide_eq_true_eq] at hs
        omega
      rw [if_neg h1, if_neg h2]
    · rw [if_neg hs]
      have h1 : forceB (at_ l i) = true ∨ (at_ l i).kind = 1 := by
        simp only [skipB, forceB, Bool.or_eq_true, Bool.and_eq_true, decide_eq_true_eq] at hs ⊢
        omega
      rcases h1 with h1 | h1
      · rw [if_pos h1]; omega
      · split <;> omega
theorem rmeasure_C (F : Mem) (v : Value) (l : List Item) (a : Int) (a1 b : Nat) (hv : RItems F v l) (hg : goodL l = true) (ha : a + 1 = a1) (hab : a1 ≤ b) (hb : b < l.length) : C0 Try.prog 43 [v, .int .i64 a, .int .i64 b] F (.tuple #[.int .i64 (mW l a1 b), .int .i64 (mY l a1 b), .int .i64 (mZ l a1 b)]) := by
  have hlen := good_len hg
  rcases hv.cases with ⟨vb, vo, vc, rfl, _, hr⟩ | ⟨rfl, rfl⟩
  · have hbe : beginAt l (b : Int).toNat ((b : Int).toNat - (a + 1).toNat) (a + 1).toNat = fromA l a1 b := by
      rw [ha, Int.toNat_natCast, Int.toNat_natCast]
      exact begin_eq hg (b - a1) a1 b (by omega) (by omega)
    have hfr : a1 ≤ fromA l a1 b ∧ fromA l a1 b ≤ b := ⟨by unfold fromA; have := (bgD_bd l (l.length - a1) a1).1; unfold bgA; omega, Nat.min_le_right _ _⟩
    unfold mW mY mZ
    generalize fromA l a1 b = f at *
    have hbd : ∀ n, n ≤ l.length → _ := fun n => sums_bd hg n
    have hb0 := hbd b (by omega)
    have hf0 := hbd f (by omega)
    obtain ⟨s0, s1, _⟩ := hr b hb
    refine C.go hT Try.func43 Try.ntmps43 ?_
    refine sq ?_
    refine rg ?_
    iterate 3 (refine st (h := O) ?_)
    refine nl ?_
    refine sq ?_
    refine rg ?_
    iterate 3 (refine st (h := O) ?_)
    refine nl ?_
    iterate 2 (refine sq ?_)
    refine rg ?_
    iterate 3 (refine st (h := O) ?_)
    refine cl (h := by exact fun ι hV hl => RBegin_C _ _ l a b (hv.le hl) (by omega) (by omega) (by omega)) ?_
    rw [hbe]
    refine st (h := O) ?_
    refine nl ?_
    refine bl ?_
    refine J.loop4 (α := Nat) (β := Int) (γ := Int) (δ := Int) (fun i w y z => f ≤ i ∧ i ≤ b ∧ w = wS l i - wS l f ∧ y = yS l i - yS l f ∧ z = zS l i - zS l f) (fun i w y z => [(9, .int .i64 w), (10, .int .i64 y), (11, .int .i64 z), (12, .int .i64 i)]) [(0, _), (2, _)] (fun i w y z => []) [] (fun i w y z => b - i) (f) (0) (0) (0) (by exact ⟨rfl, rfl, rfl, rfl, trivial⟩) (by exact ⟨rfl, rfl, trivial⟩) (by exact trivial) ?_ ?_
    · exact ⟨by omega, by omega, by omega, by omega, by omega⟩
    ·intro i w y z L1 K1 e1 e2 hI
     dsimp only [apV, apR, List.cons_append, List.nil_append] at e1 e2
     subst e1 e2
     obtain ⟨hfi, hib, hw, hy, hz⟩ := hI
     iterate 2 (refine sq ?_)
     refine rg ?_
     iterate 3 (refine st (h := O) ?_)
     refine nl ?_
     refine cD (fun c0 => ?_) (fun c0 => ?_)
     ·have hil : i < l.length := by omega
      obtain ⟨r0, r1, r2, r3, _⟩ := hr i hil
      have hok := good_ok hg hil
      simp only [Item.ok, decide_eq_true_eq] at hok
      have hi0 := hbd i (by omega)
      have ew : wS l (i + 1) = wS l i + (if (at_ l i).kind = 3 then 0 else (at_ l i).width) := rfl
      have ey : yS l (i + 1) = yS l i + (if (at_ l i).kind = 2 then (at_ l i).stretch else 0) := rfl
      have ez : zS l (i + 1) = zS l i + (if (at_ l i).kind = 2 then (at_ l i).shrink else 0) := rfl
      refine sk ?_
      refine sq ?_
      refine bl ?_
      iterate 2 (refine sq ?_)
      refine rg ?_
      iterate 2 (refine st (h := O) ?_)
      refine st (h := (sdX (z := 11))) ?_
      refine st (h := sdFA) ?_
      refine st (h := (by first | exact sdLG | exact sdW)) ?_
      refine st (h := O) ?_
      refine nl ?_
      refine cD (fun c1 => ?_) (fun c1 => ?_)
      ·refine ex ?_
       refine rg ?_
       refine st (h := O) ?_
       refine st (h := sdA) ?_
       refine st (h := O) ?_
       refine nl ?_
       refine bk4 (i + 1) (_) (_) (_) (by exact ⟨rfl, rfl, rfl, rfl, trivial⟩) (by exact ⟨rfl, rfl, trivial⟩) (by exact trivial) ?_ ?_
       · omega
       · first
           | (rw [if_pos c1] at ew; rw [if_neg (by omega)] at ey ez; exact ⟨by omega, by omega, by omega, by omega, by omega⟩)
           | (rw [if_neg c1] at ew; rw [if_pos c2] at ey ez; exact ⟨by omega, by omega, by omega, by omega, by omega⟩)
           | (rw [if_neg c1] at ew; rw [if_neg c2] at ey ez; exact ⟨by omega, by omega, by omega, by omega, by omega⟩)
      ·refine sk ?_
       refine sq ?_
       refine rg ?_
       iterate 3 (refine st (h := O) ?_)
       refine st (h := (sdX (z := 11))) ?_
       refine st (h := sdFA) ?_
       refine st (h := (by first | exact sdLG | exact sdW)) ?_
       refine st (h := sdA) ?_
       refine st (h := O) ?_
       refine nl ?_
       refine sq ?_
       refine rg ?_
       iterate 2 (refine st (h := O) ?_)
       refine st (h := (sdX (z := 11))) ?_
       refine st (h := sdFA) ?_
       refine st (h := (by first | exact sdLG | exact sdW)) ?_
       refine st (h := O) ?_
       refine nl ?_
       refine cD (fun c2 => ?_) (fun c2 => ?_)
       ·refine sq ?_
        refine rg ?_
        iterate 3 (refine st (h := O) ?_)
        refine st (h := (sdX (z := 11))) ?_
        refine st (h := sdFA) ?_
        refine st (h := (by first | exact sdLG | exact sdW)) ?_
        refine st (h := sdA) ?_
        refine st (h := O) ?_
        refine nl ?_
        refine rg ?_
        iterate 3 (refine st (h := O) ?_)
        refine st (h := (sdX (z := 11))) ?_
        refine st (h := sdFA) ?_
        refine st (h := (by first | exact sdLG | exact sdW)) ?_
        refine st (h := sdA) ?_
        refine st (h := O) ?_
        refine nl ?_
        refine bk ?_
        refine rg ?_
        refine st (h := O) ?_
        refine st (h := sdA) ?_
        refine st (h := O) ?_
        refine nl ?_
        refine bk4 (i + 1) (_) (_) (_) (by exact ⟨rfl, rfl, rfl, rfl, trivial⟩) (by exact ⟨rfl, rfl, trivial⟩) (by exact trivial) ?_ ?_
        · omega
        · first
            | (rw [if_pos c1] at ew; rw [if_neg (by omega)] at ey ez; exact ⟨by omega, by omega, by omega, by omega, by omega⟩)
            | (rw [if_neg c1] at ew; rw [if_pos c2] at ey ez; exact ⟨by omega, by omega, by omega, by omega, by omega⟩)
            | (rw [if_neg c1] at ew; rw [if_neg c2] at ey ez; exact ⟨by omega, by omega, by omega, by omega, by omega⟩)
       ·refine sk ?_
        refine bk ?_
        refine rg ?_
        refine st (h := O) ?_
        refine st (h := sdA) ?_
        refine st (h := O) ?_
        refine nl ?_
        refine bk4 (i + 1) (_) (_) (_) (by exact ⟨rfl, rfl, rfl, rfl, trivial⟩) (by exact ⟨rfl, rfl, trivial⟩) (by exact trivial) ?_ ?_
        · omega
        · first
            | (rw [if_pos c1] at ew; rw [if_neg (by omega)] at ey ez; exact ⟨by omega, by omega, by omega, by omega, by omega⟩)
            | (rw [if_neg c1] at ew; rw [if_pos c2] at ey ez; exact ⟨by omega, by omega, by omega, by omega, by omega⟩)
            | (rw [if_neg c1] at ew; rw [if_neg c2] at ey ez; exact ⟨by omega, by omega, by omega, by omega, by omega⟩)
     ·obtain rfl : i = b := by omega
      have hok := good_ok hg hb
      simp only [Item.ok, decide_eq_true_eq] at hok
      refine ex ?_
      iterate 2 (refine sq ?_)
      refine rg ?_
      iterate 2 (refine st (h := O) ?_)
      refine st (h := (sdX (z := 11))) ?_
      refine st (h := sdFA) ?_
      refine st (h := (by first | exact sdLG | exact sdW)) ?_
      refine st (h := O) ?_
      refine nl ?_
      refine cD (fun c3 => ?_) (fun c3 => ?_)
      ·refine rg ?_
       iterate 3 (refine st (h := O) ?_)
       refine st (h := (sdX (z := 11))) ?_
       refine st (h := sdFA) ?_
       refine st (h := (by first | exact sdLG | exact sdW)) ?_
       refine st (h := sdA) ?_
       refine st (h := O) ?_
       refine nl ?_
       refine sq ?_
       refine rg ?_
       iterate 6 (refine st (h := O) ?_)
       refine nl ?_
       refine rt ⟨?_, rfl⟩
       subst hw hy hz
       first
         | rw [if_pos c3]
         | rw [if_neg c3, Int.add_zero]
      ·refine sk ?_
       refine sq ?_
       refine rg ?_
       iterate 6 (refine st (h := O) ?_)
       refine nl ?_
       refine rt ⟨?_, rfl⟩
       subst hw hy hz
       first
         | rw [if_pos c3]
         | rw [if_neg c3, Int.add_zero]
  · simp at hb
end Go.Proofs.Ytnkddjdmpnghmaa.Am
namespace Go.Proofs.Ytnkddjdmpnghmaa.Am
set_option linter.unusedSimpArgs false
set_option linter.unusedVariables false
set_option maxRecDepth 100000
set_option maxHeartbeats 4000000
open Go Go.RowKit
theorem R24Legal_C (F : Mem) (v : Value) (l : List Item) (i : Int) (hv : RItems F v l) : C0 Try.prog 24 [v, .int .i64 i] F (.bool (goodL l && legalB l i)) := by
  rcases hv.forms with ⟨vb, vo, vc, rfl⟩ | ⟨rfl, rfl⟩
  all_goals
    refine C.go hT Try.func24 Try.ntmps24 ?_
    refine sq ?_
    refine rg ?_
    refine st (h := O) ?_
    refine nl ?_
    refine sq ?_
    refine rg ?_
    refine st (h := O) ?_
    refine cl (h := by exact fun ι hV hl => RGood_C _ _ _ (hv.le hl)) ?_
    refine st (h := O) ?_
    refine gB (fun g7 => ?_) (fun g7 => ?_)
    ·refine sg (h := O) ?_
     refine sg (h := O) ?_
     refine clg (h := by exact fun ι hV hl => RLegal_C _ _ _ _ (hv.le hl)) ?_
     iterate 2 (refine st (h := O) ?_)
     refine nl ?_
     refine rt ⟨?_, rfl⟩
     simp_all
    ·refine sp ?_
     iterate 2 (refine sp ?_)
     iterate 2 (refine st (h := O) ?_)
     refine nl ?_
     refine rt ⟨?_, rfl⟩
     simp_all
theorem ends_iff {l : List Item} {a b : Int} (hg : goodL l = true) : ((decide (a = -1) || legalB l a) && (legalB l b && decide (a < b))) = lineB l a b := by
  rw [Bool.eq_iff_iff]
  simp only [lineB, hg, Bool.true_and, Bool.and_eq_true, Bool.or_eq_true, decide_eq_true_eq]
  constructor
  · rintro ⟨h1, h2, h3⟩; exact ⟨⟨h2, h3⟩, h1⟩
  · rintro ⟨⟨h2, h3⟩, h1⟩; exact ⟨h1, h2, h3⟩
theorem R24Measure_C (F : Mem) (v : Value) (l : List Item) (a b : Int) (hv : RItems F v l) : C0 Try.prog 23 [v, .int .i64 a, .int .i64 b] F (.tuple #[.int .i64 (measD l a b).1, .int .i64 (measD l a b).2.1, .int .i64 (measD l a b).2.2]) := by
  have hno : ¬ lineB l a b = true → measD l a b = (0, 0, 0) := lineB_no
  rcases hv.forms with ⟨vb, vo, vc, rfl⟩ | ⟨rfl, rfl⟩
  ·
    refine C.go hT Try.func23 Try.ntmps23 ?_
    refine sq ?_
    refine rg ?_
    iterate 3 (refine st (h := O) ?_)
    refine nl ?_
    iterate 2 (refine sq ?_)
    refine rg ?_
    refine st (h := O) ?_
    refine cl (h := by exact fun ι hV hl => RGood_C _ _ l (hv.le hl)) ?_
    iterate 2 (refine st (h := O) ?_)
    refine gB (fun g12 => ?_) (fun g12 => ?_)
    ·refine sp ?_
     iterate 4 (refine sp ?_)
     refine st (h := O) ?_
     refine nl ?_
     refine cT ?_
     refine sq ?_
     refine rg ?_
     iterate 3 (refine st (h := O) ?_)
     refine nl ?_
     refine rt ⟨?_, rfl⟩
     rw [hno (fun h => not_of g12 (lineB_facts h).1)]
    ·refine sg (h := O) ?_
     iterate 2 (refine sg (h := O) ?_)
     refine clg (h := by exact fun ι hV hl => ends_C _ _ l _ _ (hv.le hl)) ?_
     rw [ends_iff (of_not g12)]
     refine sg (h := O) ?_
     refine st (h := O) ?_
     refine nl ?_
     refine cB (fun c0 => ?_) (fun c0 => ?_)
     ·refine sq ?_
      refine rg ?_
      iterate 3 (refine st (h := O) ?_)
      refine nl ?_
      refine rt ⟨?_, rfl⟩
      rw [hno (not_of c0)]
     ·have hB := of_not c0
      obtain ⟨hgl, hb0, hbl, ha0, hab⟩ := lineB_facts hB
      obtain ⟨a1, ha1⟩ := Int.eq_ofNat_of_zero_le (show (0 : Int) ≤ a + 1 by omega)
      obtain ⟨b1, rfl⟩ := Int.eq_ofNat_of_zero_le hb0
      refine sk ?_
      refine sq ?_
      refine rg ?_
      iterate 3 (refine st (h := O) ?_)
      refine cl (h := by exact fun ι hV hl => rmeasure_C _ _ l a a1 b1 (hv.le hl) hgl ha1 (by omega) (by omega)) ?_
      iterate 6 (refine st (h := O) ?_)
      refine nl ?_
      refine rt ⟨?_, rfl⟩
      simp only [measD, if_pos hB, ha1, Int.toNat_natCast]
  · rw [hno (fun h => by cases (lineB_facts h).1)]
    refine C.go hT Try.func23 Try.ntmps23 ?_
    refine sq ?_
    refine rg ?_
    iterate 3 (refine st (h := O) ?_)
    refine nl ?_
    iterate 2 (refine sq ?_)
    refine rg ?_
    refine st (h := O) ?_
    refine cl (h := by exact fun ι hV hl => RGood_C _ _ [] (hv.le hl)) ?_
    iterate 2 (refine st (h := O) ?_)
    refine gB (fun g12 => ?_) (fun g12 => ?_)
    ·refine sp ?_
     iterate 4 (refine sp ?_)
     refine st (h := O) ?_
     refine nl ?_
     refine cT ?_
     refine sq ?_
     refine rg ?_
     iterate 3 (refine st (h := O) ?_)
     refine nl ?_
     exact rt ⟨rfl, rfl⟩
    ·cases of_not g12
end Go.Proofs.Ytnkddjdmpnghmaa.Am
namespace Go.Proofs.Ytnkddjdmpnghmaa.Am
set_option linter.unusedSimpArgs false
set_option linter.unusedVariables false
set_option maxRecDepth 100000
set_option maxHeartbeats 4000000
open Go Go.RowKit
theorem Item.cells_len (x : Item) (g : Value) : (x.cells g).length = 11 := rfl
theorem Item.cells_plain (x : Item) {g : Value} (h : plain1 g = true) : ∀ u ∈ x.cells g, plain1 u = true := by
  intro u hu
  simp only [Item.cells, List.mem_cons, List.not_mem_nil, or_false] at hu
  rcases hu with rfl | rfl | rfl | rfl | rfl | rfl | rfl | rfl | rfl | rfl | rfl <;> first | rfl | exact h
/-- rows that hold copies of some items -/
def CpR (l : List Item) (Y : List (Nat × Row)) (gs : List Value) : Prop := ∀ i g, gs[i]? = some g → plain1 g = true ∧ ∀ G, Rd G Y → RInts G g (at_ l i).glyphs
def cellsG (l : List Item) (gs : List Value) : List (List Value) := (List.range gs.length).map fun i => (at_ l i).cells (gs.getD i .nilFunc)
theorem cellsG_snoc (l : List Item) (gs : List Value) (g : Value) : (cellsG l (gs ++ [g])).flatten = (cellsG l gs).flatten ++ (at_ l gs.length).cells g := by
  unfold cellsG
  rw [List.length_append, List.length_singleton, List.range_succ, List.map_append, List.flatten_append]
  congr 1
  · congr 1
    apply List.map_congr_left
    intro i hi
    have : i < gs.length := List.mem_range.1 hi
    simp [List.getD_eq_getElem?_getD, List.getElem?_append_left this]
  · simp [List.getD_eq_getElem?_getD]
theorem CpR.snoc {l : List Item} {Y Z : List (Nat × Row)} {gs : List Value} {g : Value} (h : CpR l Y gs) (hp : plain1 g = true) (hg : ∀ G, Rd G (Z ++ Y) → RInts G g (at_ l gs.length).glyphs) : CpR l (Z ++ Y) (gs ++ [g]) := by
  intro i u hu
  by_cases hi : i < gs.length
  · rw [List.getElem?_append_left hi] at hu
    obtain ⟨h1, h2⟩ := h i u hu
    exact ⟨h1, fun G hG => h2 G hG.app_right⟩
  · have hl := (List.getElem?_eq_some_iff.1 hu).1
    simp at hl
    obtain rfl : i = gs.length := by omega
    simp at hu
    subst hu
    exact ⟨hp, hg⟩
theorem CpR.step {l : List Item} {Y Z : List (Nat × Row)} {gs cs news : List Value} {k : Nat} {x : Item} {g : Value} (hgs : gs.length = k) (hcs : cs = (cellsG l gs).flatten) (hcp : CpR l Y gs) (hk : k < l.length) (hx : at_ l k = x) (hn : news = x.cells g) (hp : plain1 g = true) (hg : ∀ G, Rd G (Z ++ Y) → RInts G g x.glyphs) :
    ∃ gs', gs'.length = k + 1 ∧ cs ++ news = (cellsG l gs').flatten ∧ CpR l (Z ++ Y) gs' := by
  subst hgs hcs hn hx
  exact ⟨gs ++ [g], by simp, (cellsG_snoc l gs g).symm, hcp.snoc hp hg⟩
theorem Rd.ivsW {G : Mem} {Y : List (Nat × Row)} (h : Rd G Y) {b n c : Nat} {r : Row} {xs : List Int} (hm : (b, r) ∈ Y) (hcs : r.cs = Am.ivs xs) (hn : n = xs.length) (hl : xs.length ≤ 9223372036854775807) : RInts G (.slice (some ⟨b, 0, none⟩) n c) xs := by
  subst hn
  refine .inl ⟨b, 0, c, rfl, hl, fun i x hx => ?_⟩
  rw [Nat.zero_add]
  refine h _ hm i _ ?_
  rw [hcs]
  exact ivs_get hx
theorem cellsG_row {l : List Item} {gs : List Value} {i : Nat} {g : Value} (h : gs[i]? = some g) : (cellsG l gs)[i]? = some ((at_ l i).cells g) := by
  have hi := (List.getElem?_eq_some_iff.1 h).1
  unfold cellsG
  simp only [List.getElem?_map, List.getElem?_range hi, Option.map_some, List.getD_eq_getElem?_getD, h, Option.getD_some]
theorem cs_c {l : List Item} {Y : List (Nat × Row)} {gs cs : List Value} (h : CpR l Y gs) (hcs : cs = (cellsG l gs).flatten) (ι : Nat → Nat) : cs.map (r1 ι) = cs := by
  conv => rhs; rw [← List.map_id cs]
  refine List.map_congr_left fun u hu => r1_plain ι ?_
  rw [hcs] at hu
  obtain ⟨y, hy, hu⟩ := List.mem_flatten.1 hu
  obtain ⟨i, hi, rfl⟩ := List.mem_map.1 hy
  have hil := List.mem_range.1 hi
  refine Item.cells_plain _ (h i _ ?_).1 u hu
  simp [List.getD_eq_getElem?_getD, List.getElem?_eq_getElem hil]
theorem Copied {G : Mem} {Y : List (Nat × Row)} {l : List Item} {gs : List Value} {b c : Nat} {r : Row} (h : CpR l Y gs) (hl : gs.length = l.length) (hcs : r.cs = (cellsG l gs).flatten) (hG : Rd G ((b, r) :: Y)) (hb : l.length ≤ 9223372036854775807) : RItems G (.slice (some ⟨b, 0, none⟩) l.length c) l := by
  refine .inl ⟨b, 0, c, rfl, hb, fun i x hx => ?_⟩
  have hi := (List.getElem?_eq_some_iff.1 hx).1
  obtain ⟨g, hg⟩ : ∃ g, gs[i]? = some g := ⟨_, List.getElem?_eq_getElem (by omega)⟩
  have hxe : at_ l i = x := by simp [at_, List.getD_eq_getElem?_getD, hx]
  obtain ⟨h1, h2⟩ := h i g hg
  rw [hxe] at h2
  refine ⟨g, ?_, .inl (h2 G (Rd.app_right (Z := [(b, r)]) hG))⟩
  have := lookN_of (F := G) (a := ⟨b, 0 + i * 11, none⟩) (cs := x.cells g) (fun j v hv => by
    have hj : j < 11 := by have := (List.getElem?_eq_some_iff.1 hv).1; rwa [Item.cells_len] at this
    refine hG (b, r) List.mem_cons_self (0 + i * 11 + j) v ?_
    rw [hcs, Nat.zero_add, flat_at (fun y hy => by
      obtain ⟨k, _, rfl⟩ := List.mem_map.1 hy
      exact Item.cells_len _ _) hj, cellsG_row hg, hxe]
    exact hv)
  rwa [Item.cells_len] at this
end Go.Proofs.Ytnkddjdmpnghmaa.Am
namespace Go.Proofs.Ytnkddjdmpnghmaa.Am
set_option linter.unusedSimpArgs false
set_option linter.unusedVariables false
set_option maxRecDepth 100000
set_option maxHeartbeats 4000000
open Go Go.RowKit
def gluI : Item := ⟨2, 5, 3, 2, 0, false, 0, 0, 0, 0, []⟩
def boxI : Item := ⟨1, 10, 0, 0, 0, false, 0, 0, 0, 0, []⟩
def fivePre : Nat → List Item
  | 0 => []
  | i + 1 => fivePre i ++ (if 0 < i then [gluI, boxI] else [boxI])
def fiveL : List Item := fivePre 5 ++ [⟨3, 0, 0, 0, 10000, false, 0, 0, 0, 0, []⟩, ⟨2, 0, 1073741824, 0, 0, false, 0, 0, 0, 0, []⟩, ⟨3, 0, 0, 0, -10000, false, 0, 0, 0, 0, []⟩]
def cellsI (l : List Item) : List Value := (l.map fun x => x.cells (.slice none 0 0)).flatten
theorem fivePre_len : ∀ i, (fivePre i).length ≤ 2 * i
  | 0 => Nat.le_refl _
  | i + 1 => by
    have := fivePre_len i
    simp only [fivePre, List.length_append]
    split <;> simp <;> omega
theorem cellsI_app (l m : List Item) : cellsI (l ++ m) = cellsI l ++ cellsI m := by simp [cellsI]
theorem cellsI_len (l : List Item) : (cellsI l).length = l.length * 11 := by
  induction l with
  | nil => rfl
  | cons x l ih =>
    simp only [cellsI, List.map_cons, List.flatten_cons, List.length_append, Item.cells_len, List.length_cons] at ih ⊢
    omega
theorem cellsI_c (l : List Item) (ι : Nat → Nat) : (cellsI l).map (r1 ι) = cellsI l := by
  conv => rhs; rw [← List.map_id (cellsI l)]
  refine List.map_congr_left fun u hu => r1_plain ι ?_
  obtain ⟨y, hy, hu⟩ := List.mem_flatten.1 hu
  obtain ⟨x, _, rfl⟩ := List.mem_map.1 hy
  exact Item.cells_plain x rfl u hu
end Go.Proofs.Ytnkddjdmpnghmaa.Am
namespace Go.Proofs.Ytnkddjdmpnghmaa.Am
set_option linter.unusedSimpArgs false
set_option linter.unusedVariables false
set_option maxRecDepth 100000
set_option maxHeartbeats 4000000
open Go Go.RowKit
theorem i64_mask20 (x : Int) : Go.bits .and .i64 x 1048575 = x % 1048576 := by
  have h1 : (BitVec.ofInt 64 x &&& BitVec.ofInt 64 1048575).toNat = (x % 18446744073709551616).toNat % 1048576 := by
    rw [BitVec.toNat_and, BitVec.toNat_ofInt, BitVec.toNat_ofInt]
    have e2 : ((1048575 : Int) % ((2 ^ 64 : Nat) : Int)).toNat = 2 ^ 20 - 1 := by decide
    rw [e2, Nat.and_two_pow_sub_one_eq_mod]
    rfl
  show IntKind.i64.wrap (((BitVec.ofInt 64 x &&& BitVec.ofInt 64 1048575).toNat : Nat) : Int) = x % 1048576
  rw [h1, IntKind.wrap_i64]
  omega
def inB (x : Int) : Prop := -1099511627776 ≤ x ∧ x ≤ 1099511627776
instance (x : Int) : Decidable (inB x) := inferInstanceAs (Decidable (_ ∧ _))
/-- the sum of the first ones -/
def sumL (xs : List Int) : Nat → Int
  | 0 => 0
  | k + 1 => sumL xs k + ints xs k
def inL (xs : List Int) (k : Nat) : Prop := ∀ j < k, inB (ints xs j)
instance (xs : List Int) (k : Nat) : Decidable (inL xs k) := by unfold inL; infer_instance
theorem inL_s {xs : List Int} {k : Nat} (h : inL xs k) (hb : inB (ints xs k)) : inL xs (k + 1) := fun j hj => by
  rcases Nat.lt_or_ge j k with h' | h'
  · exact h j h'
  · obtain rfl : j = k := by omega
    exact hb
theorem sumL_bd {xs : List Int} : ∀ k, inL xs k → -(k * 1099511627776) ≤ sumL xs k ∧ sumL xs k ≤ k * 1099511627776
  | 0, _ => by simp [sumL]
  | k + 1, h => by
    have h1 := sumL_bd k fun j hj => h j (by omega)
    have h2 := h k (by omega)
    unfold inB at h2
    rw [sumL]
    omega
/-- the sum, if it and all of them are in -/
def sumS (xs : List Int) : Int × Bool := if inL xs xs.length then keepS (sumL xs xs.length) else (0, false)
theorem sumS_no {xs : List Int} {k : Nat} (hk : k < xs.length) (h : ¬ inB (ints xs k)) : sumS xs = (0, false) := if_neg fun g => h (g k hk)
theorem keepS_bd (x : Int) : -1099511627776 ≤ (keepS x).1 ∧ (keepS x).1 ≤ 1099511627776 := by
  unfold keepS
  split
  · assumption
  · exact ⟨by decide, by decide⟩
theorem fSum_C (F : Mem) (a : Option Addr) (c : Nat) (xs : List Int) (ha : RIx F a xs) (hl : xs.length ≤ 1048576) : C0 Try.prog 59 [.slice a xs.length c] F (.tuple #[.int .i64 (sumS xs).1, .bool (sumS xs).2]) := by
  refine C.go hT Try.func59 Try.ntmps59 ?_
  refine sq ?_
  refine rg ?_
  iterate 2 (refine st (h := O) ?_)
  refine nl ?_
  refine sq ?_
  refine rg ?_
  iterate 2 (refine st (h := O) ?_)
  refine nl ?_
  iterate 2 (refine sq ?_)
  refine rg ?_
  iterate 3 (refine st (h := O) ?_)
  refine nl ?_
  refine bl ?_
  refine J.loop3 (α := Nat) (β := Int) (γ := Int) (fun k h w => k ≤ xs.length ∧ inL xs k ∧ h * 1048576 + w = sumL xs k ∧ 0 ≤ w ∧ w ≤ k * 1048575 ∧ -(k * 1048576) ≤ h ∧ h ≤ k * 1048576) (fun k h w => [(4, .int .i64 h), (5, .int .i64 w), (10, .int .i64 k)]) [(8, _), (9, _)] (fun k h w => []) [] (fun k h w => xs.length - k) (0) (0) (0) (by exact ⟨rfl, rfl, rfl, trivial⟩) (by exact ⟨rfl, rfl, trivial⟩) (by exact trivial) ?_ ?_
  · exact ⟨Nat.zero_le _, fun j hj => absurd hj (Nat.not_lt_zero _), rfl, by omega, by omega, by omega, by omega⟩
  ·intro k h w L1 K1 e1 e2 hI
   dsimp only [apV, apR, List.cons_append, List.nil_append] at e1 e2
   subst e1 e2
   obtain ⟨hk, hi, hs, hw0, hw1, hh0, hh1⟩ := hI
   refine sq ?_
   refine rg ?_
   refine st (h := O) ?_
   refine nl ?_
   refine sq ?_
   refine cD (fun c0 => ?_) (fun c0 => ?_)
   ·have hkl : k < xs.length := by omega
    obtain ⟨vb, vo, rfl, hr⟩ := ha.rd (by omega)
    have q1 : look F ⟨vb, vo + (k : Int).toNat * 1, none⟩ = some (.int .i64 (ints xs k)) := by rw [Nat.mul_one]; exact hr k _ (ints_get hkl)
    refine sk ?_
    refine sq ?_
    refine bl ?_
    refine sq ?_
    refine rg ?_
    refine st (h := (sdX (z := 1))) ?_
    refine st (h := (by first | exact sdLG | exact sdW)) ?_
    refine st (h := O) ?_
    refine nl ?_
    iterate 2 (refine sq ?_)
    refine rg ?_
    refine st (h := O) ?_
    refine cl (h := by exact fun ι hV hl => fIn_C _ _) ?_
    refine st (h := O) ?_
    refine nl ?_
    refine cB (fun c1 => ?_) (fun c1 => ?_)
    ·refine sq ?_
     refine rg ?_
     iterate 2 (refine st (h := O) ?_)
     refine nl ?_
     refine rt ⟨?_, rfl⟩
     rw [sumS_no hkl (by unfold inB; simp at c1; omega)]
    ·have hb : inB (ints xs k) := by unfold inB; simpa using c1
     have hb2 := hb
     unfold inB at hb2
     refine sk ?_
     refine sq ?_
     refine rg ?_
     iterate 2 (refine st (h := O) ?_)
     refine st (h := suShr 20 (v := ints xs k / 1048576) rfl) ?_
     refine st (h := sdA) ?_
     refine st (h := O) ?_
     refine nl ?_
     refine rg ?_
     iterate 2 (refine st (h := O) ?_)
     refine st (h := sbAnd (i64_mask20 _)) ?_
     refine st (h := sdA) ?_
     refine st (h := O) ?_
     refine nl ?_
     refine bk ?_
     refine rg ?_
     refine st (h := sdA) ?_
     refine st (h := O) ?_
     refine nl ?_
     refine bk3 (k + 1) (_) (_) (by exact ⟨rfl, rfl, rfl, trivial⟩) (by exact ⟨rfl, rfl, trivial⟩) (by exact trivial) ?_ ?_
     · omega
     · exact ⟨by omega, inL_s hi hb, by rw [sumL]; omega, by omega, by omega, by omega, by omega⟩
   ·obtain rfl : k = xs.length := by omega
    have hsum : sumS xs = keepS (h * 1048576 + w) := by rw [sumS, if_pos hi, hs]
    refine ex ?_
    refine sq ?_
    refine rg ?_
    iterate 2 (refine st (h := O) ?_)
    refine st (h := suShr 20 (v := w / 1048576) rfl) ?_
    refine st (h := sdA) ?_
    refine st (h := O) ?_
    refine nl ?_
    iterate 2 (refine sq ?_)
    refine rg ?_
    iterate 3 (refine st (h := O) ?_)
    refine gD (fun g32 => ?_) (fun g32 => ?_)
    ·refine sp ?_
     refine sp ?_
     refine st (h := O) ?_
     refine nl ?_
     refine cT ?_
     refine sq ?_
     refine rg ?_
     iterate 2 (refine st (h := O) ?_)
     refine nl ?_
     refine rt ⟨?_, rfl⟩
     rw [hsum, keepS_out (by omega)]
    ·refine sg (h := O) ?_
     refine sg (h := O) ?_
     refine st (h := O) ?_
     refine nl ?_
     refine cD (fun c2 => ?_) (fun c2 => ?_)
     ·refine sq ?_
      refine rg ?_
      iterate 2 (refine st (h := O) ?_)
      refine nl ?_
      refine rt ⟨?_, rfl⟩
      rw [hsum, keepS_out (by omega)]
     ·refine sk ?_
      refine sq ?_
      refine rg ?_
      refine st (h := O) ?_
      refine st (h := siShl 20 (v := (h + w / 1048576) * 1048576) (hv := rfl)) ?_
      refine st (h := O) ?_
      refine st (h := sbAnd (i64_mask20 _)) ?_
      refine st (h := sdA) ?_
      refine cl (h := by exact fun ι hV hl => kept_C _ _ _) ?_
      iterate 4 (refine st (h := O) ?_)
      refine nl ?_
      refine rt ⟨?_, rfl⟩
      rw [hsum, show (h + w / 1048576) * 1048576 + w % 1048576 = h * 1048576 + w from by omega]
      rfl
theorem Rd.ixq {G : Mem} {Y : List (Nat × Row)} (h : Rd G Y) {b : Nat} {ι : Nat → Nat} {r : Row} {xs : List Int} (hm : (b, r.r ι) ∈ Y) (hcs : r.cs = Am.ivs xs) (hl : xs.length ≤ 9223372036854775807) : RIx G (some ⟨b, 0, none⟩) xs := by
  refine ⟨.inr (.inl ⟨_, _, rfl⟩), hl, fun _ => ⟨_, _, rfl, fun i x hx => ?_⟩⟩
  rcases Rd.ivs (c := 0) h hm hcs hl with ⟨b', off, c, e, _, h3⟩ | ⟨e, _⟩
  · simp only [Value.slice.injEq, Option.some.injEq, Addr.mk.injEq] at e
    obtain ⟨⟨rfl, rfl, _⟩, _⟩ := e
    exact h3 i x hx
  · simp at e
/-- what falls to the first ones -/
def flS (t : Int) (xs : List Int) (k : Nat) : Int := (floorS t (sumL xs k) (sumS xs).1).1
theorem flS_0 (t : Int) (xs : List Int) : flS t xs 0 = 0 := by
  unfold flS floorS
  split
  · rfl
  · rw [sumL, Int.mul_zero, Int.zero_ediv]; rfl
theorem flS_bd (t : Int) (xs : List Int) (k : Nat) : -1099511627776 ≤ flS t xs k ∧ flS t xs k ≤ 1099511627776 := by
  unfold flS floorS
  split
  · exact ⟨by decide, by decide⟩
  · exact keepS_bd _
def posL (xs : List Int) (k : Nat) : Prop := ∀ j < k, 0 ≤ ints xs j
instance (xs : List Int) (k : Nat) : Decidable (posL xs k) := by unfold posL; infer_instance
theorem posL_s {xs : List Int} {k : Nat} (h : posL xs k) (hb : 0 ≤ ints xs k) : posL xs (k + 1) := fun j hj => by
  rcases Nat.lt_or_ge j k with h' | h'
  · exact h j h'
  · obtain rfl : j = k := by omega
    exact hb
def sharB (t : Int) (xs : List Int) : Prop := (sumS xs).2 = true ∧ (sumS xs).1 ≠ 0 ∧ inB t ∧ posL xs xs.length
instance (t : Int) (xs : List Int) : Decidable (sharB t xs) := by unfold sharB; infer_instance
def shares (t : Int) (xs : List Int) (k : Nat) : List Int := (List.range k).map fun j => flS t xs (j + 1) - flS t xs j
/-- the shares, or none -/
def sharD (t : Int) (xs : List Int) : Option (List Int) := if sharB t xs then some (shares t xs xs.length) else none
def RedSh (o : Option (List Int)) (u : Value) (Y : List (Nat × Row)) : Prop := match o with
  | none => u = .tuple #[.slice none 0 0, .bool false]
  | some ys => ∃ a c, u = .tuple #[.slice a ys.length c, .bool true] ∧ ∀ G, Rd G Y → RIx G a ys
theorem RedSh.no {o : Option (List Int)} {Y : List (Nat × Row)} (h : o = none) : RedSh o (.tuple #[.slice none 0 0, .bool false]) Y := by subst h; rfl
theorem sumS_in {xs : List Int} (h : (sumS xs).2 = true) : inL xs xs.length := by
  unfold sumS at h
  split at h
  · assumption
  · cases h
theorem sumS_1 {xs : List Int} (h : (sumS xs).2 = true) : (sumS xs).1 = sumL xs xs.length := by
  unfold sumS keepS at h ⊢
  split
  · rename_i h1
    rw [if_pos h1] at h
    split
    · rfl
    · rename_i h2; rw [if_neg h2] at h; cases h
  · rename_i h1; rw [if_neg h1] at h; cases h
theorem sumL_pre {xs : List Int} {k n : Nat} (hk : k ≤ n) (h : inL xs n) : inL xs k := fun j hj => h j (by omega)
theorem shares_len (t : Int) (xs : List Int) (k : Nat) : (shares t xs k).length = k := by simp [shares]
theorem shares_s (t : Int) (xs : List Int) (k : Nat) : ivs (shares t xs (k + 1)) = ivs (shares t xs k) ++ [.int .i64 (flS t xs (k + 1) - flS t xs k)] := by
  rw [shares, List.range_succ, List.map_append, ivs_append]
  rfl
theorem fShare_C (F : Mem) (t : Int) (a : Option Addr) (c : Nat) (xs : List Int) (ht : i64ok t) (ha : RIx F a xs) (hn : xs.length ≤ 1048576) : C Try.prog 49 [.int .i64 t, .slice a xs.length c] F (RedSh (sharD t xs)) := by
  have hp := ha.pl
  refine C.go hT Try.func49 Try.ntmps49 ?_
  refine sq ?_
  refine rg ?_
  iterate 2 (refine st (h := O) ?_)
  refine nl ?_
  refine sq ?_
  refine rg ?_
  refine st (h := O) ?_
  refine cl (h := by exact fun ι hV hl => (fSum_C _ a c xs (ha.le hl) hn).ofR (arg1 (hp.rV ι _ _))) ?_
  iterate 5 (refine st (h := O) ?_)
  refine nl ?_
  iterate 2 (refine sq ?_)
  refine rg ?_
  iterate 3 (refine st (h := O) ?_)
  refine gB (fun g24 => ?_) (fun g24 => ?_)
  ·refine sp ?_
   refine sp ?_
   iterate 2 (refine st (h := O) ?_)
   iterate 3 (refine sp ?_)
   refine st (h := O) ?_
   refine nl ?_
   refine cT ?_
   refine sq ?_
   refine rg ?_
   iterate 2 (refine st (h := O) ?_)
   refine nl ?_
   exact rt (RedSh.no (if_neg fun h => by rw [h.1] at g24; cases g24))
  ·refine sg (h := O) ?_
   refine sg (h := O) ?_
   iterate 2 (refine st (h := O) ?_)
   refine gD (fun g28 => ?_) (fun g28 => ?_)
   ·refine sp ?_
    iterate 2 (refine sp ?_)
    refine st (h := O) ?_
    refine nl ?_
    refine cT ?_
    refine sq ?_
    refine rg ?_
    iterate 2 (refine st (h := O) ?_)
    refine nl ?_
    exact rt (RedSh.no (if_neg fun h => h.2.1 g28))
   ·refine sg (h := O) ?_
    refine clg (h := by exact fun ι hV hl => fIn_C _ _) ?_
    refine sg (h := O) ?_
    refine st (h := O) ?_
    refine nl ?_
    refine cB (fun c0 => ?_) (fun c0 => ?_)
    ·refine sq ?_
     refine rg ?_
     iterate 2 (refine st (h := O) ?_)
     refine nl ?_
     exact rt (RedSh.no (if_neg fun h => by have := h.2.2.1; unfold inB at this; simp at c0; omega))
    ·have hB : inB t := by unfold inB; simpa using c0
     have hs2 : (sumS xs).2 = true := by simpa using g24
     have hin := sumS_in hs2
     have hall := sumS_1 hs2
     have hn0 : 0 < xs.length := by
       rcases Nat.eq_zero_or_pos xs.length with h | h
       · rw [h] at hall
         exact absurd hall g28
       · exact h
     have hbn := sumL_bd _ hin
     have hal : i64ok (sumS xs).1 := by rw [hall]; unfold i64ok; omega
     refine sk ?_
     iterate 2 (refine sq ?_)
     refine rg ?_
     iterate 3 (refine st (h := O) ?_)
     refine nl ?_
     refine bl ?_
     refine J.loop1 (α := Nat) (fun k => k ≤ xs.length ∧ posL xs k) (fun k => [(35, .int .i64 k)]) [(0, _), (1, _), (6, _), (33, _), (34, _)] (fun k => []) [] (fun k => xs.length - k) (0) (by exact ⟨rfl, trivial⟩) (by exact ⟨rfl, rfl, rfl, rfl, rfl, trivial⟩) (by exact trivial) ?_ ?_
     · exact ⟨Nat.zero_le _, fun j hj => absurd hj (Nat.not_lt_zero _)⟩
     ·intro k L1 K1 e1 e2 hI
      dsimp only [apV, apR, List.cons_append, List.nil_append] at e1 e2
      subst e1 e2
      obtain ⟨hk, hi⟩ := hI
      refine sq ?_
      refine rg ?_
      refine st (h := O) ?_
      refine nl ?_
      refine sq ?_
      refine cD (fun c1 => ?_) (fun c1 => ?_)
      ·have hkl : k < xs.length := by omega
       obtain ⟨vb, vo, rfl, hr⟩ := ha.rd (by omega)
       have q1 : look F ⟨vb, vo + (k : Int).toNat * 1, none⟩ = some (.int .i64 (ints xs k)) := by rw [Nat.mul_one]; exact hr k _ (ints_get hkl)
       refine sk ?_
       refine sq ?_
       refine bl ?_
       refine sq ?_
       refine rg ?_
       refine st (h := (sdX (z := 1))) ?_
       refine st (h := (by first | exact sdLG | exact sdW)) ?_
       refine st (h := O) ?_
       refine nl ?_
       refine sq ?_
       refine rg ?_
       iterate 2 (refine st (h := O) ?_)
       refine nl ?_
       refine cD (fun c2 => ?_) (fun c2 => ?_)
       ·refine sq ?_
        refine rg ?_
        iterate 2 (refine st (h := O) ?_)
        refine nl ?_
        exact rt (RedSh.no (if_neg fun h => by have := h.2.2.2 k hkl; omega))
       ·refine sk ?_
        refine bk ?_
        refine rg ?_
        refine st (h := sdA) ?_
        refine st (h := O) ?_
        refine nl ?_
        refine bk1 (k + 1) (by exact ⟨rfl, trivial⟩) (by exact ⟨rfl, rfl, rfl, rfl, rfl, trivial⟩) (by exact trivial) ?_ ?_
        · omega
        · exact ⟨by omega, posL_s hi (by omega)⟩
      ·obtain rfl : k = xs.length := by omega
       have hok : sharD t xs = some (shares t xs xs.length) := if_pos ⟨hs2, g28, hB, hi⟩
       refine ex ?_
       refine sq ?_
       refine rg ?_
       refine st (h := O) ?_
       refine nl ?_
       refine sq ?_
       refine rg ?_
       iterate 2 (refine st (h := O) ?_)
       refine nl ?_
       iterate 2 (refine sq ?_)
       refine rg ?_
       iterate 3 (refine st (h := O) ?_)
       refine nl ?_
       refine bl ?_
       refine J.loop5 (α := Option Nat) (β := Nat) (γ := Nat) (δ := List Value) (ε := Int) (fun o m k ca gv => k ≤ xs.length ∧ m = k ∧ apB o m ∧ ca = ivs (shares t xs k) ∧ gv = flS t xs k) (fun o m k ca gv => [(10, apV 500002 o m), (11, .int .i64 (sumL xs k)), (12, .int .i64 gv), (44, .int .i64 k)]) [(0, _), (6, _), (42, _), (43, _)] (fun o m k ca gv => apR 500002 3 1 true o ca ++ []) [] (fun o m k ca gv => xs.length - k) (none) (0) (0) ([]) (0) (by exact ⟨rfl, rfl, rfl, rfl, trivial⟩) (by exact ⟨rfl, rfl, rfl, rfl, trivial⟩) (by exact (by repeat' first | exact trivial | refine And.intro rfl ?_)) ?_ ?_
       · exact ⟨Nat.zero_le _, rfl, rfl, rfl, (flS_0 t xs).symm⟩
       ·intro o m k ca gv L1 K1 e1 e2 hI
        rcases o with _ | cap_o
        all_goals
         dsimp only [apV, apR, List.cons_append, List.nil_append] at e1 e2
         subst e1 e2
         obtain ⟨hk, hm, hap, hca, hgv⟩ := hI
         simp only [apB] at hap
         refine sq ?_
         refine rg ?_
         refine st (h := O) ?_
         refine nl ?_
         refine sq ?_
         refine cD (fun c3 => ?_) (fun c3 => ?_)
         ·have hkl : k < xs.length := by omega
          have hcl : ca.length = k := by rw [hca, ivs_length, shares_len]
          obtain ⟨vb, vo, rfl, hr⟩ := ha.rd (by omega)
          have q1 : look F ⟨vb, vo + (k : Int).toNat * 1, none⟩ = some (.int .i64 (ints xs k)) := by rw [Nat.mul_one]; exact hr k _ (ints_get hkl)
          have hb1 := sumL_bd k (sumL_pre (by omega) hin)
          have hb2 := sumL_bd (k + 1) (sumL_pre (by omega) hin)
          have hb3 := hin k hkl
          unfold inB at hb3
          have hb4 := flS_bd t xs (k + 1)
          have hb5 := flS_bd t xs k
          rw [← hgv] at hb5
          unfold flS at hb4
          refine sk ?_
          refine sq ?_
          refine bl ?_
          refine sq ?_
          refine rg ?_
          refine st (h := (sdX (z := 1))) ?_
          refine st (h := (by first | exact sdLG | exact sdW)) ?_
          refine st (h := O) ?_
          refine nl ?_
          refine sq ?_
          refine rg ?_
          iterate 2 (refine st (h := O) ?_)
          refine st (h := sdA) ?_
          refine st (h := O) ?_
          refine nl ?_
          refine sq ?_
          refine rg ?_
          iterate 3 (refine st (h := O) ?_)
          refine cl (h := by exact fun ι hV hl => Floor_C _ t (sumL xs (k + 1)) (sumS xs).1 ht (by unfold i64ok; omega) hal) ?_
          iterate 5 (refine st (h := O) ?_)
          refine nl ?_
          refine sq ?_
          refine rg ?_
          iterate 3 (refine st (h := O) ?_)
          refine st (h := sdS) ?_
          refine sl ?_
          first | refine apN (news := [_]) 500002 true [(0, _), (6, _), (11, _), (15, _), (42, _), (43, _), (44, _)] [] ?_ | refine apO (news := [_]) 501002 500002 [(0, _), (6, _), (11, _), (15, _), (42, _), (43, _), (44, _)] [] ?_
          intro cap63 hc63 hd63
          refine st (h := O) ?_
          refine nl ?_
          refine rg ?_
          iterate 2 (refine st (h := O) ?_)
          refine nl ?_
          refine bk ?_
          refine rg ?_
          refine st (h := sdA) ?_
          refine st (h := O) ?_
          refine nl ?_
          refine bk5 (some _) (_) (k + 1) (_) (_) (by exact ⟨rfl, rfl, rfl, rfl, trivial⟩) (by exact ⟨rfl, rfl, rfl, rfl, trivial⟩) (by exact (by repeat' first | exact trivial | refine And.intro rfl ?_)) ?_ ?_
          · omega
          · refine ⟨by omega, by omega, by unfold apB; omega, ?_, rfl⟩
            rw [shares_s, ← hca, ← hgv]
            first
              | rfl
              | (rw [show ca = [] from List.eq_nil_of_length_eq_zero (by omega)]; rfl)
         ·try (exfalso; omega)
          all_goals
            obtain rfl : k = xs.length := by omega
            subst hm
            refine ex ?_
            refine sq ?_
            refine rg ?_
            iterate 3 (refine st (h := O) ?_)
            refine nl ?_
            refine rtX fun ι hV => ?_
            rw [hok]
            refine ⟨some ⟨ι 500002, 0, none⟩, cap_o, by rw [shares_len]; rfl, fun G hG => ?_⟩
            exact hG.ixq (List.mem_map.2 ⟨_, List.mem_cons_self, rfl⟩) hca (by rw [shares_len]; omega)
end Go.Proofs.Ytnkddjdmpnghmaa.Am
namespace Go.Proofs.Ytnkddjdmpnghmaa.Am
set_option linter.unusedSimpArgs false
set_option linter.unusedVariables false
set_option maxRecDepth 100000
set_option maxHeartbeats 4000000
open Go Go.RowKit
/-- what the glue among d items from i on has of something -/
def gluL (f : Item → Int) (l : List Item) (i : Nat) : Nat → List Int
  | 0 => []
  | d + 1 => gluL f l i d ++ (if (at_ l (i + d)).kind = 2 then [f (at_ l (i + d))] else [])
theorem gluL_len (f g : Item → Int) (l : List Item) (i : Nat) : ∀ d, (gluL f l i d).length = (gluL g l i d).length
  | 0 => rfl
  | d + 1 => by
    rw [gluL, gluL, List.length_append, List.length_append, gluL_len f g l i d]
    split <;> rfl
theorem sumL_app (xs ys : List Int) : ∀ k, k ≤ xs.length → sumL (xs ++ ys) k = sumL xs k
  | 0, _ => rfl
  | k + 1, h => by
    rw [sumL, sumL, sumL_app xs ys k (by omega)]
    congr 1
    simp only [ints, List.getD_eq_getElem?_getD]
    rw [List.getElem?_append_left (by omega)]
theorem sumL_snoc (xs : List Int) (x : Int) : sumL (xs ++ [x]) (xs ++ [x]).length = sumL xs xs.length + x := by
  rw [List.length_append, List.length_cons, List.length_nil, sumL, sumL_app _ _ _ (Nat.le_refl _)]
  congr 1
  simp [ints, List.getD_eq_getElem?_getD]
theorem sum_gluY (l : List Item) (i : Nat) : ∀ d, sumL (gluL Item.stretch l i d) (gluL Item.stretch l i d).length = yS l (i + d) - yS l i
  | 0 => by simp [gluL, sumL]
  | d + 1 => by
    have := sum_gluY l i d
    rw [gluL, show i + (d + 1) = i + d + 1 from rfl, yS]
    split
    · rw [sumL_snoc, this]; omega
    · rw [List.append_nil, this]; omega
theorem sum_gluZ (l : List Item) (i : Nat) : ∀ d, sumL (gluL Item.shrink l i d) (gluL Item.shrink l i d).length = zS l (i + d) - zS l i
  | 0 => by simp [gluL, sumL]
  | d + 1 => by
    have := sum_gluZ l i d
    rw [gluL, show i + (d + 1) = i + d + 1 from rfl, zS]
    split
    · rw [sumL_snoc, this]; omega
    · rw [List.append_nil, this]; omega
theorem gluL_mem {f : Item → Int} {l : List Item} {i : Nat} : ∀ {d : Nat} {x : Int}, x ∈ gluL f l i d → ∃ j, i ≤ j ∧ j < i + d ∧ x = f (at_ l j)
  | 0, x, h => by cases h
  | d + 1, x, h => by
    rw [gluL] at h
    rcases List.mem_append.1 h with h | h
    · obtain ⟨j, h1, h2, h3⟩ := gluL_mem h
      exact ⟨j, h1, by omega, h3⟩
    · split at h
      · simp only [List.mem_cons, List.not_mem_nil, or_false] at h
        exact ⟨i + d, by omega, by omega, h⟩
      · cases h
theorem gluL_le (f : Item → Int) (l : List Item) (i : Nat) : ∀ d, (gluL f l i d).length ≤ d
  | 0 => Nat.le_refl _
  | d + 1 => by
    have := gluL_le f l i d
    rw [gluL, List.length_append]
    split <;> simp <;> omega
/-- the first ones with the others' share -/
def addTo (xs ys : List Int) (sg : Int) (j : Nat) : List Int := (List.range xs.length).map fun i => if i < j then ints xs i + sg * ints ys i else ints xs i
theorem addTo_len (xs ys : List Int) (sg : Int) (j : Nat) : (addTo xs ys sg j).length = xs.length := by simp [addTo]
theorem addTo_0 (xs ys : List Int) (sg : Int) : addTo xs ys sg 0 = xs := by
  apply List.ext_getElem
  · simp [addTo]
  · intro i h1 h2
    have := ints_get h2
    rw [List.getElem?_eq_getElem h2, Option.some.injEq] at this
    simp [addTo, this]
theorem addTo_get (xs ys : List Int) (sg : Int) {j : Nat} (h : j < xs.length) : (ivs (addTo xs ys sg j))[j]? = some (.int .i64 (ints xs j)) := by
  have h2 : j < (addTo xs ys sg j).length := by rw [addTo_len]; exact h
  have := ivs_get (List.getElem?_eq_getElem h2)
  rw [this]
  simp [addTo]
theorem addTo_put (xs ys : List Int) (sg : Int) {j : Nat} (h : j < xs.length) : putL (ivs (addTo xs ys sg j)) j [.int .i64 (ints xs j + sg * ints ys j)] = ivs (addTo xs ys sg (j + 1)) := by
  show (ivs (addTo xs ys sg j)).set j _ = _
  apply List.ext_getElem
  · rw [List.length_set, ivs_length, ivs_length, addTo_len, addTo_len]
  · intro i h1 h2
    rw [ivs_length, addTo_len] at h2
    rw [List.getElem_set]
    split
    · rename_i e
      subst e
      simp [ivs, addTo]
    · rename_i e
      simp only [ivs, addTo, List.getElem_map, List.getElem_range]
      have : (i < j + 1) = (i < j) := propext (by omega)
      simp [this]
/-- the weights of a line's glue, and the glue -/
def glW (l : List Item) (a1 b : Nat) : List Int := gluL Item.width l (fromA l a1 b) (b - fromA l a1 b)
def glY (l : List Item) (a1 b : Nat) : List Int := gluL Item.stretch l (fromA l a1 b) (b - fromA l a1 b)
def glZ (l : List Item) (a1 b : Nat) : List Int := gluL Item.shrink l (fromA l a1 b) (b - fromA l a1 b)
def giveD (ws : List Int) (o : Option (List Int)) (sg : Int) : List Int := match o with
  | none => ws
  | some s => addTo ws s sg ws.length
def freeD (l : List Item) (a1 b : Nat) (width : Int) : Int := width - mW l a1 b
def glueD (l : List Item) (a1 b : Nat) (width align : Int) : List Int × Bool :=
  if 0 < freeD l a1 b width ∧ align = 0 ∧ 0 < mY l a1 b then (giveD (glW l a1 b) (sharD (freeD l a1 b width) (glY l a1 b)) 1, false)
  else if freeD l a1 b width < 0 then (giveD (glW l a1 b) (sharD (min (-freeD l a1 b width) (mZ l a1 b)) (glZ l a1 b)) (-1), decide (mZ l a1 b < -freeD l a1 b width))
  else (glW l a1 b, false)
theorem fromA_le (l : List Item) (a1 b : Nat) : fromA l a1 b ≤ b := Nat.min_le_right _ _
theorem glY_sum (l : List Item) (a1 b : Nat) : sumL (glY l a1 b) (glY l a1 b).length = mY l a1 b := by
  rw [glY, sum_gluY, mY, Nat.add_sub_cancel' (fromA_le l a1 b)]
theorem glZ_sum (l : List Item) (a1 b : Nat) : sumL (glZ l a1 b) (glZ l a1 b).length = mZ l a1 b := by
  rw [glZ, sum_gluZ, mZ, Nat.add_sub_cancel' (fromA_le l a1 b)]
theorem gl_mem_ok {f : Item → Int} {l : List Item} {i d : Nat} (hg : goodL l = true) (h : i + d ≤ l.length) (hf : ∀ x : Item, x.ok = true → 0 ≤ f x ∧ f x ≤ 1073741824) : ∀ x ∈ gluL f l i d, 0 ≤ x ∧ x ≤ 1073741824 := by
  intro x hx
  obtain ⟨j, h1, h2, rfl⟩ := gluL_mem hx
  exact hf _ (good_ok hg (by omega))
theorem gl_sum {xs : List Int} (h : ∀ x ∈ xs, 0 ≤ x ∧ x ≤ 1073741824) : ∀ k, k ≤ xs.length → 0 ≤ sumL xs k ∧ sumL xs k ≤ k * 1073741824
  | 0, _ => by simp [sumL]
  | k + 1, hk => by
    have h1 := gl_sum h k (by omega)
    have h2 := h _ (List.mem_of_getElem? (ints_get (xs := xs) (i := k) (by omega)))
    rw [sumL]; omega
theorem gl_sumS {xs : List Int} (h : ∀ x ∈ xs, 0 ≤ x ∧ x ≤ 1073741824) (hl : xs.length ≤ 1024) : sumS xs = (sumL xs xs.length, true) := by
  have h1 := gl_sum h _ (Nat.le_refl _)
  rw [sumS, if_pos]
  · rw [keepS, if_pos (by omega)]
  · intro j hj
    have := h _ (List.mem_of_getElem? (ints_get hj))
    unfold inB; omega
theorem gl_share {xs : List Int} {t : Int} (h : ∀ x ∈ xs, 0 ≤ x ∧ x ≤ 1073741824) (hl : xs.length ≤ 1024) (ht : inB t) (h0 : sumL xs xs.length ≠ 0) : sharD t xs = some (shares t xs xs.length) := by
  have e := gl_sumS h hl
  refine if_pos ⟨by rw [e], by rw [e]; exact h0, ht, fun j hj => (h _ (List.mem_of_getElem? (ints_get hj))).1⟩
theorem gl_noshare {xs : List Int} {t : Int} (h : ∀ x ∈ xs, 0 ≤ x ∧ x ≤ 1073741824) (hl : xs.length ≤ 1024) (h0 : sumL xs xs.length = 0) : sharD t xs = none := by
  have e := gl_sumS h hl
  exact if_neg fun g => g.2.1 (by rw [e]; exact h0)
theorem okY (x : Item) (h : x.ok = true) : 0 ≤ x.stretch ∧ x.stretch ≤ 1073741824 := by simp only [Item.ok, decide_eq_true_eq] at h; omega
theorem okZ (x : Item) (h : x.ok = true) : 0 ≤ x.shrink ∧ x.shrink ≤ 1073741824 := by simp only [Item.ok, decide_eq_true_eq] at h; omega
theorem okW (x : Item) (h : x.ok = true) : 0 ≤ x.width ∧ x.width ≤ 1073741824 := by simp only [Item.ok, decide_eq_true_eq] at h; omega
end Go.Proofs.Ytnkddjdmpnghmaa.Am
namespace Go.Proofs.Ytnkddjdmpnghmaa.Am
set_option linter.unusedSimpArgs false
set_option linter.unusedVariables false
set_option maxRecDepth 100000
set_option maxHeartbeats 4000000
open Go Go.RowKit
def mayB (w al : Int) : Bool := decide (1 ≤ w ∧ w ≤ 1073741824 ∧ 0 ≤ al ∧ al ≤ 3)
theorem may_C (F : Mem) (w al : Int) : C0 Try.prog 27 [.int .i64 w, .int .i64 al] F (.bool (mayB w al)) := by
  unfold mayB
  refine C.go hT Try.func27 Try.ntmps27 ?_
  refine sq ?_
  refine rg ?_
  refine st (h := O) ?_
  refine nl ?_
  refine sq ?_
  refine rg ?_
  iterate 3 (refine st (h := O) ?_)
  refine gD (fun g7 => ?_) (fun g7 => ?_)
  ·refine sg (h := O) ?_
   refine sg (h := O) ?_
   iterate 2 (refine st (h := O) ?_)
   refine gD (fun g11 => ?_) (fun g11 => ?_)
   ·refine sg (h := O) ?_
    refine sg (h := O) ?_
    iterate 2 (refine st (h := O) ?_)
    refine gD (fun g15 => ?_) (fun g15 => ?_)
    ·refine sg (h := O) ?_
     refine sg (h := O) ?_
     iterate 2 (refine st (h := O) ?_)
     refine nl ?_
     refine rt ⟨?_, rfl⟩
     simp only [Value.bool.injEq, eq_comm (a := false), decide_eq_true_eq, decide_eq_false_iff_not, decide_eq_decide]; omega
    ·refine sp ?_
     refine sp ?_
     iterate 2 (refine st (h := O) ?_)
     refine nl ?_
     refine rt ⟨?_, rfl⟩
     simp only [Value.bool.injEq, eq_comm (a := false), decide_eq_true_eq, decide_eq_false_iff_not, decide_eq_decide]; omega
   ·refine sp ?_
    refine sp ?_
    iterate 2 (refine st (h := O) ?_)
    iterate 2 (refine sp ?_)
    iterate 2 (refine st (h := O) ?_)
    refine nl ?_
    refine rt ⟨?_, rfl⟩
    simp only [Value.bool.injEq, eq_comm (a := false), decide_eq_true_eq, decide_eq_false_iff_not, decide_eq_decide]; omega
  ·refine sp ?_
   refine sp ?_
   iterate 2 (refine st (h := O) ?_)
   iterate 2 (refine sp ?_)
   iterate 2 (refine st (h := O) ?_)
   iterate 2 (refine sp ?_)
   iterate 2 (refine st (h := O) ?_)
   refine nl ?_
   refine rt ⟨?_, rfl⟩
   simp only [Value.bool.injEq, eq_comm (a := false), decide_eq_true_eq, decide_eq_false_iff_not, decide_eq_decide]; omega
theorem wS_mono {l : List Item} (hg : goodL l = true) {j : Nat} : ∀ k, j ≤ k → k ≤ l.length → wS l j ≤ wS l k
  | 0, hj, _ => by rw [Nat.le_zero.1 hj]; exact Int.le_refl _
  | k + 1, hj, hk => by
    rcases Nat.lt_or_ge j (k + 1) with h' | h'
    · have h1 := wS_mono hg (j := j) k (by omega) (by omega)
      have h2 := okW _ (good_ok hg (i := k) (by omega))
      rw [wS]
      split <;> omega
    · obtain rfl : j = k + 1 := by omega
      exact Int.le_refl _
theorem mW_bd {l : List Item} (hg : goodL l = true) {a1 b : Nat} (hb : b < l.length) : 0 ≤ mW l a1 b ∧ mW l a1 b ≤ 1125899906842624 := by
  have hlen := good_len hg
  have hfl := fromA_le l a1 b
  have h1 := sums_bd hg b (by omega)
  have h2 := sums_bd hg (fromA l a1 b) (by omega)
  have h3 := okW _ (good_ok hg hb)
  have h4 := wS_mono hg b hfl (by omega)
  unfold mW
  split <;> omega
def sn2 (x : Nat × Nat × Nat) : Nat := x.2.1
def sn3 (x : Nat × Nat × Nat) : Nat := x.2.2
theorem shares_at (t : Int) (xs : List Int) {j k : Nat} (h : j < k) : ints (shares t xs k) j = flS t xs (j + 1) - flS t xs j := by
  have := ints_get (xs := shares t xs k) (i := j) (by rw [shares_len]; exact h)
  rw [shares, List.getElem?_map, List.getElem?_range h] at this
  exact (Option.some.inj this).symm
theorem shares_bd (t : Int) (xs : List Int) {j k : Nat} (h : j < k) : -2199023255552 ≤ ints (shares t xs k) j ∧ ints (shares t xs k) j ≤ 2199023255552 := by
  have h1 := flS_bd t xs (j + 1)
  have h2 := flS_bd t xs j
  rw [shares_at t xs h]; omega
theorem glueD_D {l : List Item} {a1 b : Nat} {w al : Int} (h : ¬ w - mW l a1 b < 0) (h2 : ¬ (0 < w - mW l a1 b ∧ al = 0 ∧ 0 < mY l a1 b)) : glueD l a1 b w al = (glW l a1 b, false) := by
  unfold glueD freeD
  rw [if_neg h2, if_neg h]
def RedGl (g : List Int × Bool) (u : Value) (Y : List (Nat × Row)) : Prop := ∃ a c, u = .tuple #[.slice a g.1.length c, .bool g.2] ∧ ∀ G, Rd G Y → RIx G a g.1
end Go.Proofs.Ytnkddjdmpnghmaa.Am
namespace Go.Proofs.Ytnkddjdmpnghmaa.Am
set_option linter.unusedSimpArgs false
set_option linter.unusedVariables false
set_option maxRecDepth 100000
set_option maxHeartbeats 4000000
open Go Go.RowKit
/-- how wide a line's glue is, if there is such a line -/
def gluT (l : List Item) (a b width al : Int) : List Int × Bool := if lineB l a b = true ∧ mayB width al = true then glueD l (a + 1).toNat b.toNat width al else ([], false)
theorem RedGl.no {u : Value} {Y : List (Nat × Row)} {g : List Int × Bool} (h : g = ([], false)) (hu : u = .tuple #[.slice none 0 0, .bool false]) : RedGl g u Y := by
  subst h hu
  exact ⟨none, 0, rfl, fun G _ => RIx.none G⟩
theorem lineB_lt {l : List Item} {a b : Int} (h : lineB l a b = true) : -1 ≤ a ∧ a < b ∧ b < l.length := by
  simp only [lineB, legalB, Bool.and_eq_true, Bool.or_eq_true, decide_eq_true_eq] at h
  omega
theorem SlV.opq {g : Value} (h : SlV g) : ∃ a n c, PlA a ∧ g = .slice a n c := by
  rcases h with ⟨b, o, n, c, rfl⟩ | ⟨n, c, rfl⟩
  · exact ⟨_, n, c, .inr (.inl ⟨b, o, rfl⟩), rfl⟩
  · exact ⟨none, n, c, .inl rfl, rfl⟩
theorem RItems.slq {F : Mem} {v : Value} {l : List Item} (h : RItems F v l) : SlV v := by
  rcases h.cases with ⟨vb, vo, vc, rfl, _⟩ | ⟨rfl, _⟩
  · exact .inl ⟨_, _, _, _, rfl⟩
  · exact .inr ⟨_, _, rfl⟩
end Go.Proofs.Ytnkddjdmpnghmaa.Am
namespace Go.Proofs.Ytnkddjdmpnghmaa.Am
set_option linter.unusedSimpArgs false
set_option linter.unusedVariables false
set_option maxRecDepth 100000
set_option maxHeartbeats 4000000
open Go Go.RowKit
def lnRow (ty : TypeId) (lv : Value) (x : Item) (g gv : Value) (fr : Int) (ov : Bool) (al : Int) : Row := { elem := ty, cs := lv :: (x.cells g ++ [gv, .int .i64 fr, .bool ov, .int .i64 al]), room := 16, fz := false, flat := false }
theorem sharD_len {t : Int} {xs s : List Int} (h : sharD t xs = some s) : s.length = xs.length := by
  unfold sharD at h
  split at h
  · simp only [Option.some.injEq] at h
    rw [← h, shares_len]
  · cases h
theorem sharD_bd {t : Int} {xs s : List Int} (h : sharD t xs = some s) {j : Nat} (hj : j < xs.length) : -2199023255552 ≤ ints s j ∧ ints s j ≤ 2199023255552 := by
  unfold sharD at h
  split at h
  · simp only [Option.some.injEq] at h
    rw [← h]; exact shares_bd t xs hj
  · cases h
theorem tg0_pl (D : List Nat) {v : Value} (h : plain0 v = true) : tg0 D v = true := by
  cases v with
  | pointer a => cases a with
    | none => rfl
    | some a => obtain ⟨b, o, s⟩ := a; rcases s with _ | _ | s <;> first | rfl | cases h
  | slice a n c => cases a with
    | none => rfl
    | some a => obtain ⟨b, o, s⟩ := a; rcases s with _ | _ | s <;> first | rfl | cases h
  | _ => rfl
theorem tg1_pl (D : List Nat) {v : Value} (h : plain1 v = true) : tg1 D v = true := by
  cases v with
  | func fn x y =>
    simp only [plain1, Bool.and_eq_true] at h
    have aux : ∀ l : Array Value, l.all plain0 = true → l.toList.all (tg0 D) = true := fun l hl =>
      List.all_eq_true.2 fun u hu => tg0_pl D ((Array.all_eq_true'.1 hl) u (by simpa using hu))
    simp only [tg1, Bool.and_eq_true]
    exact ⟨aux _ h.1, aux _ h.2⟩
  | agg cs => simp [plain1] at h
  | tuple cs => simp [plain1] at h
  | pointer a => exact tg0_pl D (by simpa only [plain1] using h)
  | slice a n c => exact tg0_pl D (by simpa only [plain1] using h)
  | _ => rfl
theorem lnRow_tg (D : List Nat) {ty : TypeId} {lv : Value} {x : Item} {g gv : Value} {fr : Int} {ov : Bool} {al : Int} (h1 : plain1 lv = true) (h2 : plain1 g = true) (h3 : tg1 D gv = true) : (lnRow ty lv x g gv fr ov al).cs.all (tg1 D) = true := by
  simp only [lnRow, Item.cells, List.cons_append, List.nil_append, List.all_cons, List.all_nil, tg1_pl D h1, tg1_pl D h2, h3, Bool.and_true, Bool.true_and]
  rfl
theorem give_CA (F : Mem) (t sg : Int) (ws ys : List Int) (lv : Value) (x : Item) (g : Value) (fr : Int) (ov : Bool) (al : Int) (gc c4 r3 r4 : Nat) (ht : i64ok t) (hw : ∀ x ∈ ws, 0 ≤ x ∧ x ≤ 1073741824) (hl : ys.length = ws.length) (hn : ws.length ≤ 1024) (hsg : sg = 1 ∨ sg = -1) (plv : plain1 lv = true) (pg : plain1 g = true) :
    CA Try.prog [500001, 500002, 500003, 500004] [500001, 500002, 500003, 500004] 48 [.int .i64 t, .slice (some ⟨500004, 0, some 0⟩) ys.length c4, .int .i64 sg, .pointer (some ⟨500001, 0, some 0⟩)] F
      [(500001, { elem := 64, cs := [.pointer (some ⟨500002, 0, some 0⟩)], room := 1, fz := false, flat := false }), (500002, lnRow 72 lv x g (.slice (some ⟨500003, 0, some 0⟩) ws.length gc) fr ov al), (500003, { elem := 3, cs := ivs ws, room := r3, fz := false, flat := true }), (500004, { elem := 3, cs := ivs ys, room := r4, fz := false, flat := true })]
      (fun v _ K' => v = .tuple #[] ∧ K' = [(500001, { elem := 64, cs := [.pointer (some ⟨500002, 0, some 0⟩)], room := 1, fz := false, flat := false }), (500002, lnRow 72 lv x g (.slice (some ⟨500003, 0, some 0⟩) ws.length gc) fr ov al), (500003, { elem := 3, cs := ivs (giveD ws (sharD t ys) sg), room := r3, fz := false, flat := true }), (500004, { elem := 3, cs := ivs ys, room := r4, fz := false, flat := true })]) := by
  generalize ho : sharD t ys = o
  have htg : ∀ D : List Nat, D.contains 500003 = true → (lnRow 72 lv x g (.slice (some ⟨500003, 0, some 0⟩) ws.length gc) fr ov al).cs.all (tg1 D) = true := fun D h => lnRow_tg D plv pg h
  refine CA.go hT Try.func48 Try.ntmps48 ?_
  refine sq ?_
  refine rg ?_
  iterate 2 (refine st (h := O) ?_)
  refine clC (h := by exact fun ι hV hl => fShare_C _ t (some ⟨ι 500004, 0, none⟩) c4 ys ht (hV.intsX rfl rfl (by omega)) (by omega)) ?_
  intro u1 Y1 hQ1 hv1 hp1 hN1
  rw [ho] at hQ1
  rcases o with _ | s
  · obtain rfl : u1 = .tuple #[.slice none 0 0, .bool false] := hQ1
    iterate 5 (refine st (h := O) ?_)
    refine nl ?_
    refine sq ?_
    refine rg ?_
    refine st (h := O) ?_
    refine nl ?_
    refine cB (fun c0 => ?_) (fun c0 => ?_)
    ·try (exact absurd c0 (by decide))
     all_goals
       refine sq ?_
       refine rg ?_
       iterate 3 (refine st (h := O) ?_)
       refine nl ?_
       refine bl ?_
       refine J.loop2 (α := Nat) (β := List Value) (fun j E => j ≤ s.length ∧ E = ivs (addTo ws s sg j)) (fun j E => [(19, .int .i64 j)]) [(2, _), (3, _), (7, _), (18, _)] (fun j E => [(500003, { elem := 3, cs := E, room := r3, fz := false, flat := true })]) [(500001, _), (500002, _), (500004, _)] (fun j E => s.length - j) (0) (_) (by exact ⟨rfl, trivial⟩) (by exact ⟨rfl, rfl, rfl, rfl, trivial⟩) (by exact ⟨rfl, rfl, rfl, rfl, rfl, rfl, rfl, rfl, trivial⟩) ?_ ?_
       · exact ⟨Nat.zero_le _, by rw [addTo_0]⟩
       ·intro j E L1 K1 e1 e2 hI
        dsimp only [apV, apR, List.cons_append, List.nil_append] at e1 e2
        subst e1 e2
        obtain ⟨hj, hE⟩ := hI
        have hEl : E.length = ws.length := by rw [hE, ivs_length, addTo_len]
        refine sq ?_
        refine rg ?_
        refine st (h := O) ?_
        refine nl ?_
        refine sq ?_
        refine cD (fun c1 => ?_) (fun c1 => ?_)
        ·have hjs : j < s.length := by omega
         have hjw : j < ws.length := by omega
         have hd1 : E[0 + (j : Int).toNat * 1]? = some (.int .i64 (ints ws j)) := by
           rw [Nat.zero_add, Nat.mul_one, Int.toNat_natCast, hE]
           exact addTo_get _ _ _ hjw
         obtain ⟨sb, so, rfl, hrs⟩ := hA1.rd (by omega)
         have q1 : look (F.add Y1) ⟨sb, so + (j : Int).toNat * 1, none⟩ = some (.int .i64 (ints s j)) := by rw [Nat.mul_one]; exact hrs j _ (ints_get hjs)
         have b1 := hw _ (List.mem_of_getElem? (ints_get hjw))
         have b2 := sharD_bd ho (j := j) (by omega)
         have b3 : -2199023255552 ≤ sg * ints s j ∧ sg * ints s j ≤ 2199023255552 := by rcases hsg with rfl | rfl <;> omega
         refine sk ?_
         refine sq ?_
         refine bl ?_
         refine sq ?_
         refine rg ?_
         iterate 2 (refine st (h := O) ?_)
         refine nl ?_
         refine dr (tgk := by simp only [tgK, lnRow, Item.cells, List.cons_append, List.nil_append, List.all_cons, List.all_nil, tg1_pl _ plv, tg1_pl _ pg, Bool.true_and]; rfl) 15 [500003, 500001, 500002, 500004] [0, 1, 2, 3, 4, 5, 6, 7, 8, 9, 10, 11, 12, 13, 14, 1015] ?_
         refine dt (hv := by exact sdL) ?_
         refine dt (hv := by exact O) ?_
         refine dt (hv := by exact sdFA) ?_
         refine dt (hv := by exact sdL) ?_
         refine dt (hv := by exact O) ?_
         refine dt (hv := by exact (sdX (z := 1))) ?_
         refine dt (hv := by exact sdL (v := .int .i64 (ints ws j)) (hv := by exact hd1)) ?_
         iterate 3 (refine dt (hv := by exact O) ?_)
         refine dt (hv := by exact (sdX (z := 1))) ?_
         refine dt (hv := by exact (by first | exact sdLG | exact sdW)) ?_
         refine dt (hv := by exact sdM) ?_
         refine dt (hv := by exact sdA) ?_
         refine dt (hv := by exact (sdX (z := 1))) ?_
         refine dso (hle := by show 0 + (j : Int).toNat * 1 + 1 ≤ E.length; omega) (hkp := by first | exact Kept.all | exact Kept.k0 | exact Kept.kY) ?_
         refine dn ?_
         refine bk ?_
         refine rg ?_
         refine st (h := sdA) ?_
         refine st (h := O) ?_
         refine nl ?_
         refine bk2 (j + 1) (_) (by exact ⟨rfl, trivial⟩) (by exact ⟨rfl, rfl, rfl, rfl, trivial⟩) (by exact ⟨rfl, rfl, rfl, rfl, rfl, rfl, rfl, rfl, trivial⟩) ?_ ?_
         · omega
         · have e := addTo_put ws s sg hjw
           refine ⟨by omega, ?_⟩
           show putL E (0 + (j : Int).toNat * 1) [.int .i64 _] = _
           rw [Nat.zero_add, Nat.mul_one, Int.toNat_natCast, ← e, hE]
        ·obtain rfl : j = s.length := by omega
         have hE2 : E = ivs (giveD ws (some s) sg) := by rw [hE, hsl, hl]; rfl
         refine ex ?_
         try subst hE2
         first
           | exact absurd c0 (by decide)
           | exact reAY _ hp1 ⟨rfl, rfl⟩ (h1 := by simp only [tgK, lnRow, Item.cells, List.cons_append, List.nil_append, List.all_cons, List.all_nil, tg1_pl _ plv, tg1_pl _ pg, Bool.true_and]; rfl)
    ·refine sk ?_
     try subst hE2
     first
       | exact absurd c0 (by decide)
       | exact reAY _ hp1 ⟨rfl, rfl⟩ (h1 := by simp only [tgK, lnRow, Item.cells, List.cons_append, List.nil_append, List.all_cons, List.all_nil, tg1_pl _ plv, tg1_pl _ pg, Bool.true_and]; rfl)
  · obtain ⟨sa, sc, rfl, hR1⟩ := hQ1
    have hA1 := hR1 _ hN1.rows
    have hsl := sharD_len ho
    iterate 5 (refine st (h := O) ?_)
    refine nl ?_
    refine sq ?_
    refine rg ?_
    refine st (h := O) ?_
    refine nl ?_
    refine cB (fun c0 => ?_) (fun c0 => ?_)
    ·try (exact absurd c0 (by decide))
     all_goals
       refine sq ?_
       refine rg ?_
       iterate 3 (refine st (h := O) ?_)
       refine nl ?_
       refine bl ?_
       refine J.loop2 (α := Nat) (β := List Value) (fun j E => j ≤ s.length ∧ E = ivs (addTo ws s sg j)) (fun j E => [(19, .int .i64 j)]) [(2, _), (3, _), (7, _), (18, _)] (fun j E => [(500003, { elem := 3, cs := E, room := r3, fz := false, flat := true })]) [(500001, _), (500002, _), (500004, _)] (fun j E => s.length - j) (0) (_) (by exact ⟨rfl, trivial⟩) (by exact ⟨rfl, rfl, rfl, rfl, trivial⟩) (by exact ⟨rfl, rfl, rfl, rfl, rfl, rfl, rfl, rfl, trivial⟩) ?_ ?_
       · exact ⟨Nat.zero_le _, by rw [addTo_0]⟩
       ·intro j E L1 K1 e1 e2 hI
        dsimp only [apV, apR, List.cons_append, List.nil_append] at e1 e2
        subst e1 e2
        obtain ⟨hj, hE⟩ := hI
        have hEl : E.length = ws.length := by rw [hE, ivs_length, addTo_len]
        refine sq ?_
        refine rg ?_
        refine st (h := O) ?_
        refine nl ?_
        refine sq ?_
        refine cD (fun c1 => ?_) (fun c1 => ?_)
        ·have hjs : j < s.length := by omega
         have hjw : j < ws.length := by omega
         have hd1 : E[0 + (j : Int).toNat * 1]? = some (.int .i64 (ints ws j)) := by
           rw [Nat.zero_add, Nat.mul_one, Int.toNat_natCast, hE]
           exact addTo_get _ _ _ hjw
         obtain ⟨sb, so, rfl, hrs⟩ := hA1.rd (by omega)
         have q1 : look (F.add Y1) ⟨sb, so + (j : Int).toNat * 1, none⟩ = some (.int .i64 (ints s j)) := by rw [Nat.mul_one]; exact hrs j _ (ints_get hjs)
         have b1 := hw _ (List.mem_of_getElem? (ints_get hjw))
         have b2 := sharD_bd ho (j := j) (by omega)
         have b3 : -2199023255552 ≤ sg * ints s j ∧ sg * ints s j ≤ 2199023255552 := by rcases hsg with rfl | rfl <;> omega
         refine sk ?_
         refine sq ?_
         refine bl ?_
         refine sq ?_
         refine rg ?_
         iterate 2 (refine st (h := O) ?_)
         refine nl ?_
         refine dr (tgk := by simp only [tgK, lnRow, Item.cells, List.cons_append, List.nil_append, List.all_cons, List.all_nil, tg1_pl _ plv, tg1_pl _ pg, Bool.true_and]; rfl) 15 [500003, 500001, 500002, 500004] [0, 1, 2, 3, 4, 5, 6, 7, 8, 9, 10, 11, 12, 13, 14, 1015] ?_
         refine dt (hv := by exact sdL) ?_
         refine dt (hv := by exact O) ?_
         refine dt (hv := by exact sdFA) ?_
         refine dt (hv := by exact sdL) ?_
         refine dt (hv := by exact O) ?_
         refine dt (hv := by exact (sdX (z := 1))) ?_
         refine dt (hv := by exact sdL (v := .int .i64 (ints ws j)) (hv := by exact hd1)) ?_
         iterate 3 (refine dt (hv := by exact O) ?_)
         refine dt (hv := by exact (sdX (z := 1))) ?_
         refine dt (hv := by exact (by first | exact sdLG | exact sdW)) ?_
         refine dt (hv := by exact sdM) ?_
         refine dt (hv := by exact sdA) ?_
         refine dt (hv := by exact (sdX (z := 1))) ?_
         refine dso (hle := by show 0 + (j : Int).toNat * 1 + 1 ≤ E.length; omega) (hkp := by first | exact Kept.all | exact Kept.k0 | exact Kept.kY) ?_
         refine dn ?_
         refine bk ?_
         refine rg ?_
         refine st (h := sdA) ?_
         refine st (h := O) ?_
         refine nl ?_
         refine bk2 (j + 1) (_) (by exact ⟨rfl, trivial⟩) (by exact ⟨rfl, rfl, rfl, rfl, trivial⟩) (by exact ⟨rfl, rfl, rfl, rfl, rfl, rfl, rfl, rfl, trivial⟩) ?_ ?_
         · omega
         · have e := addTo_put ws s sg hjw
           refine ⟨by omega, ?_⟩
           show putL E (0 + (j : Int).toNat * 1) [.int .i64 _] = _
           rw [Nat.zero_add, Nat.mul_one, Int.toNat_natCast, ← e, hE]
        ·obtain rfl : j = s.length := by omega
         have hE2 : E = ivs (giveD ws (some s) sg) := by rw [hE, hsl, hl]; rfl
         refine ex ?_
         try subst hE2
         first
           | exact absurd c0 (by decide)
           | exact reAY _ hp1 ⟨rfl, rfl⟩ (h1 := by simp only [tgK, lnRow, Item.cells, List.cons_append, List.nil_append, List.all_cons, List.all_nil, tg1_pl _ plv, tg1_pl _ pg, Bool.true_and]; rfl)
    ·refine sk ?_
     try subst hE2
     first
       | exact absurd c0 (by decide)
       | exact reAY _ hp1 ⟨rfl, rfl⟩ (h1 := by simp only [tgK, lnRow, Item.cells, List.cons_append, List.nil_append, List.all_cons, List.all_nil, tg1_pl _ plv, tg1_pl _ pg, Bool.true_and]; rfl)
end Go.Proofs.Ytnkddjdmpnghmaa.Am
namespace Go.Proofs.Ytnkddjdmpnghmaa.Am
set_option linter.unusedSimpArgs false
set_option linter.unusedVariables false
open Go Go.RowKit
end Go.Proofs.Ytnkddjdmpnghmaa.Am
namespace Go.Proofs.Ytnkddjdmpnghmaa.Am
set_option linter.unusedSimpArgs false
set_option linter.unusedVariables false
open Go Go.RowKit
section
variable {P : Program}
end
section
variable {F : Mem} {K : Own} {L : Slots}
end
end Go.Proofs.Ytnkddjdmpnghmaa.Am
namespace Go.Proofs.Ytnkddjdmpnghmaa.Am
set_option linter.unusedSimpArgs false
set_option linter.unusedVariables false
open Go Go.RowKit
section
variable {X : Cx} {F : Mem} {L : Slots} {K : Own} {s : List SI} {ops : Array Oper} {o : Oper} {l : List Oper}
end
end Go.Proofs.Ytnkddjdmpnghmaa.Am
namespace Go.Proofs.Ytnkddjdmpnghmaa.Am
set_option linter.unusedSimpArgs false
set_option linter.unusedVariables false
open Go Go.RowKit
/-- a row that a callee left becomes the call's own -/
theorem JL.adoptV {X : Cx} {F : Mem} {L : Slots} {K : Own} {s : List SI} {ops : Array Oper} {l : List Oper} {d t g : Nat} {r : Row} {Y : List (Nat × Row)} {v v' : Value} (hd : L.lookup d = some v) (hv : ∀ ι : Nat → Nat, ι t = g → cV ι v' = cV ι v) (hr : ∀ u ∈ r.cs, plain1 u = true) (hL : ntL t L = true) (hK : ntK t K = true) (hD : X.D.contains t = false)
    (h : JL X ops l s (F.add Y) ((d, v') :: L) ((t, { r with flat := true }) :: K)) : JL X ops l s (F.add ((g, r) :: Y)) L K := by
  intro ι a w hF hS
  have hx := hS.ext (g, r) (by simp [Mem.add])
  have hnd := hS.nodup
  simp only [Mem.add, List.cons_append, List.map_cons] at hnd
  have hagree : ∀ u ∈ X.D, upd ι t g u = ι u := fun u hu => upd_ne ι (fun e => by subst e; simp at hD; exact hD hu)
  have hmap : (K.map fun x => upd ι t g x.1) = K.map fun x => ι x.1 := List.map_congr_left fun x hx => upd_ne ι (hS.rowc (b := 0) hK hx).1
  refine JL.tr hagree (h (upd ι t g) a w ?_ ⟨hS.below, ?_, fun x hx2 => ?_, fun x hx2 => hS.ext x (by simp only [Mem.add] at hx2 ⊢; exact List.mem_cons_of_mem _ hx2)⟩)
  · have h1 := hF.nt (fun u hu => upd_ne ι (t := t) (b := g) hu) hL
    refine ⟨h1.size, h1.defers, fun s u hu => ?_⟩
    rw [List.lookup_cons] at hu
    split at hu
    · rename_i e
      have e1 : s = d := by simpa using e
      subst e1
      simp only [Option.some.injEq] at hu
      subst hu
      rw [hv _ (upd_eq ..)]
      exact h1.slot s _ hd
    · exact h1.slot s u hu
  · simp only [List.map_cons, List.cons_append, hmap, upd_eq, Mem.add, List.map_append] at hnd ⊢
    refine (List.Perm.nodup_iff ?_).1 hnd
    exact List.perm_middle
  · rcases List.mem_cons.1 hx2 with rfl | hx2
    · simp only [upd_eq]
      have e : ({ r with flat := true } : Row).c (upd ι t g) = { r.c (fun _ => 0) with flat := true } := by
        unfold Row.c
        have : r.cs.map (c1 (upd ι t g)) = r.cs.map (c1 fun _ => 0) := List.map_congr_left fun u hu => c1_plain _ _ (hr u hu)
        simp [this]
      refine ⟨hx.1, ?_, fun _ => hr⟩
      rw [e]
      exact hx.2
    · obtain ⟨h1, h2⟩ := hS.rowc (b := g) hK hx2
      obtain ⟨h3, h4, h5⟩ := hS.own x hx2
      rw [upd_ne ι h1, h2]
      exact ⟨h3, h4, h5⟩
section
variable {X : Cx} {F : Mem} {L : Slots} {K : Own} {s : List SI} {ops : Array Oper} {o : Oper} {l : List Oper}
end
section
variable {X : Cx} {F F0 : Mem} {L : Slots} {K K0 : Own} {s : List SI} {ops : Array Oper} {l : List Oper} {b : Nat} {D : List Nat} {p : List (Nat × Bool)} {listed : Array Bool}
/-- a literal slice -/
theorem jsl {i : Nat} {o : Oper} {Θ : Tab} {ty el : TypeId} {parts : Array (Nat × Operand)} {d n : Nat} {ti tj : Ty} {ps : List (Nat × List Value)} {cs : List Value} (hk : JD X l b F0 K0 D p (listed.setIfInBounds i true) s F ((d, .slice (some ⟨d, 0, some 0⟩) n n) :: L) ((d, { elem := el, cs := cs, room := n * tj.size, flat := false }) :: K))
    (hp0 : planOk l b (listed.setIfInBounds i true) p = true := by kernel_rfl) (ho' : l[i]? = some o := by rfl) (hg : o.guard = none := by rfl) (ho : o.op = .buildSlice ty n parts := by rfl) (hd : o.dst = some d := by rfl) (hN : d < X.N := by exact Nat.le_of_ble_eq_true rfl) (hθ : tabOk X.P Θ = true := by exact hT) (hi : Θ.lookup ty = some ti := by rfl) (hki : ti.k = .slice el := by rfl) (hj : Θ.lookup el = some tj := by rfl)
    (hp : partsL (evO L) parts.toList = some ps := by rfl) (h1 : ps.all (fun q => q.2.all (·.oneCell')) = true := by rfl) (hf : fillL (fun i => some (i * tj.size, tj.size)) (zer tj n) ps = some cs := by rfl) (hs : n * tj.size ≤ 16777216 := by exact Nat.le_of_ble_eq_true rfl) (hz0 : tj.zero.length = tj.size := by rfl) (hz1 : 0 < tj.size := by exact Nat.le_of_ble_eq_true rfl)
    (hL : ntL d L = true := by rfl) (hK : ntK d K = true := by rfl) (hD : D.contains d = false := by rfl)
    (hkp : Kept b F0 K0 (listed.setIfInBounds i true) F ((d, { elem := el, cs := cs, room := n * tj.size, flat := false }) :: K) := by first | exact Kept.all | exact Kept.k0 | exact Kept.kY | exact Kept.kYY | exact Kept.kY3) : JS X l b F0 K0 D p listed s i F L K :=
  JS.op ho' hg hp0 (Go1.slit hθ ho hd hN hi hki hj hp h1 hf hs hz0 hz1 hL hK hD ⟨hkp, hk⟩)
end
end Go.Proofs.Ytnkddjdmpnghmaa.Am
namespace Go.Proofs.Ytnkddjdmpnghmaa.Am
set_option linter.unusedSimpArgs false
set_option linter.unusedVariables false
open Go Go.RowKit
theorem J.drawK {X : Cx} {F : Mem} {L : Slots} {K K0 : Own} {s : List SI} {l : List Oper} {id : Nat} (b : Nat) (D : List Nat) (p : List (Nat × Bool)) (hK : KSub K0 K) (hm : X.P.follows .mixedOrders = true) (hlen : pl p = l.length) (hp : planOk l b (Array.replicate l.length false) p = true) (hok : JDok X l K0 D)
    (h : JD X l b F K0 D p (Array.replicate l.length false) s F L K) : J X (.code (.region id l.toArray true) :: s) F L K := by
  intro ι a w hF hS
  refine wp_region_any hm (wpAny_of_B (b := b) (S := fun w => St F ι K0 w) _ _ _ _ ?_)
  have hS' : St F ι K { w with drawn := w.drawn + 1 } := hS.same rfl rfl rfl rfl
  have := h hp hok ι ι a _ hF hS' (fun _ _ => rfl) (fun _ => hS'.weak hK)
  rw [hlen] at this
  simpa using this
theorem drK {X : Cx} {F : Mem} {L : Slots} {K : Own} {s : List SI} {id : Nat} {l : List Oper} (b : Nat) (D : List Nat) (K0 : Own) (p : List Nat) (h : JD X l b F K0 D (pm p) (Array.replicate l.length false) s F L K) (hK : KSub K0 K := by repeat' first | exact trivial | refine And.intro rfl ?_) (hm : X.P.follows .mixedOrders = true := by kernel_rfl) (hlen : pl (pm p) = l.length := by kernel_rfl) (hp : planOk l b (Array.replicate l.length false) (pm p) = true := by kernel_rfl)
    (nop : ∀ c F L K, ¬ X.R (.panic c) F L K := by intro _ _ _ _ h; exact h) (sel : Region.noSelect l.toArray = true := by kernel_rfl) (sub : (X.D.all fun t => D.contains t) = true := by rfl) (tgk : tgK D K0 = true := by rfl) : J X (.code (.region id l.toArray true) :: s) F L K :=
  J.drawK b D (pm p) hK hm hlen hp ⟨nop, sel, sub, tgk⟩ h
section
variable {X : Cx} {F F0 : Mem} {L : Slots} {K K0 : Own} {s : List SI} {ops : Array Oper} {l : List Oper} {b : Nat} {D : List Nat} {p : List (Nat × Bool)} {listed : Array Bool}
/-- append to nothing -/
theorem japN {i : Nat} {o : Oper} {Θ : Tab} {ty ty' el : TypeId} {sx x : Operand} {d m : Nat} {ti ti' tj : Ty} {xv : Value} {news : List Value} (t : Nat) (fl : Bool)
    (hk : ∀ cap, m ≤ cap → cap ≤ 9223372036854775807 → JD X l b F0 K0 D p (listed.setIfInBounds i true) s F ((d, .slice (some ⟨t, 0, some 0⟩) m cap) :: L) ((t, { elem := el, cs := news, room := cap * tj.size, flat := fl }) :: K))
    (hp0 : planOk l b (listed.setIfInBounds i true) p = true := by kernel_rfl) (ho' : l[i]? = some o := by rfl) (hg : o.guard = none := by rfl) (ho : o.op = .call ⟨.builtin .append, #[sx, x], #[ty, ty']⟩ := by rfl) (hd : o.dst = some d := by rfl) (hN : d < X.N := by exact Nat.le_of_ble_eq_true rfl) (hθ : tabOk X.P Θ = true := by exact hT)
    (hi : Θ.lookup ty = some ti := by rfl) (hki : ti.k = .slice el := by rfl) (hi' : Θ.lookup ty' = some ti' := by rfl) (hk' : slB ti'.k = true := by rfl) (hj : Θ.lookup el = some tj := by rfl) (hz0 : tj.zero.length = tj.size := by rfl) (hz1 : 0 < tj.size := by exact Nat.le_of_ble_eq_true rfl)
    (hs : evO L sx = some (.slice none 0 0) := by rfl) (hx : evO L x = some xv := by rfl) (happ : App X.P F K tj.size xv m news := by exact App.slice rfl (by simp [Value.oneCell']; done) rfl)
    (hm : 0 < m := by first | exact Nat.le_of_ble_eq_true rfl | omega) (h63 : m ≤ 9223372036854775807 := by first | exact Nat.le_of_ble_eq_true rfl | omega) (hby : m * tj.bytes ≤ 140737488355328 := by first | exact Nat.le_of_ble_eq_true rfl | (dsimp only; omega))
    (hflat : fl = true → news.all plain1 = true := by intro _; rfl) (hL : ntL t L = true := by rfl) (hK : ntK t K = true := by rfl) (hnn : news.all (nt1 t) = true := by rfl) (hD : D.contains t = false := by rfl)
    (hkp : ∀ cap, Kept b F0 K0 (listed.setIfInBounds i true) F ((t, { elem := el, cs := news, room := cap * tj.size, flat := fl }) :: K) := by intro cap; first | exact Kept.all | exact Kept.k0 | exact Kept.kY | exact Kept.kYY | exact Kept.kY3) : JS X l b F0 K0 D p listed s i F L K := by
  refine JS.op ho' hg hp0 (Go1.append (t := t) (n := 0) (c := 0) (olds := []) (K0 := K) (fz := false) (fl := fl) hθ ho hd hN hi hki hi' hk' hj hz0 hz1 hs hx happ hm (.inl ⟨rfl, rfl, rfl, rfl, rfl⟩) (by simp) hflat (by omega) (by simpa using hby) hL hK hnn hD ?_)
  intro cap h1 h2
  simp only [Nat.zero_add, List.nil_append] at h1 ⊢
  exact ⟨hkp cap, hk cap h1 h2⟩
/-- append to an own row of the tag u: the row has the new tag t behind it -/
theorem japO {i : Nat} {o : Oper} {Θ : Tab} {ty ty' el : TypeId} {sx x : Operand} {d u m n c : Nat} {ti ti' tj : Ty} {xv : Value} {news : List Value} {r : Row} (t : Nat)
    (hk : ∀ cap, n + m ≤ cap → cap ≤ 9223372036854775807 → JD X l b F0 K0 D p (listed.setIfInBounds i true) s F ((d, .slice (some ⟨t, 0, some 0⟩) (n + m) cap) :: L) ((t, { elem := el, cs := r.cs ++ news, room := cap * tj.size, fz := r.fz, flat := r.flat }) :: delK u K))
    (hp0 : planOk l b (listed.setIfInBounds i true) p = true := by kernel_rfl) (ho' : l[i]? = some o := by rfl) (hg : o.guard = none := by rfl) (ho : o.op = .call ⟨.builtin .append, #[sx, x], #[ty, ty']⟩ := by rfl) (hd : o.dst = some d := by rfl) (hN : d < X.N := by exact Nat.le_of_ble_eq_true rfl) (hθ : tabOk X.P Θ = true := by exact hT)
    (hi : Θ.lookup ty = some ti := by rfl) (hki : ti.k = .slice el := by rfl) (hi' : Θ.lookup ty' = some ti' := by rfl) (hk' : slB ti'.k = true := by rfl) (hj : Θ.lookup el = some tj := by rfl) (hz0 : tj.zero.length = tj.size := by rfl) (hz1 : 0 < tj.size := by exact Nat.le_of_ble_eq_true rfl)
    (hs : evO L sx = some (.slice (some ⟨u, 0, some 0⟩) n c) := by rfl) (hx : evO L x = some xv := by rfl) (hr : K.lookup u = some r := by rfl) (happ : App X.P F K tj.size xv m news := by exact App.slice rfl (by simp [Value.oneCell']; done) rfl)
    (hroom : r.room = c * tj.size := by rfl) (hel : r.elem = el := by rfl) (hol : r.cs.length = n * tj.size := by first | rfl | (dsimp only; omega) | (simp; done) | (simp; omega)) (hnc : n ≤ c := by omega) (hcm : c ≤ 9223372036854775807 := by omega)
    (hm : 0 < m := by first | exact Nat.le_of_ble_eq_true rfl | omega) (h63 : n + m ≤ 9223372036854775807 := by omega) (hby : (n + m) * tj.bytes ≤ 140737488355328 := by (dsimp only; omega))
    (hflat : r.flat = true → news.all plain1 = true := by intro _; rfl) (hL : ntL t L = true := by rfl) (hK : ntK t K = true := by rfl) (hnn : news.all (nt1 t) = true := by rfl) (hD : D.contains t = false := by rfl)
    (hkp : ∀ cap, Kept b F0 K0 (listed.setIfInBounds i true) F ((t, { elem := el, cs := r.cs ++ news, room := cap * tj.size, fz := r.fz, flat := r.flat }) :: delK u K) := by intro cap; first | exact Kept.all | exact Kept.k0 | exact Kept.kY | exact Kept.kYY | exact Kept.kY3) : JS X l b F0 K0 D p listed s i F L K := by
  refine JS.op ho' hg hp0 (Go1.append (t := t) (n := n) (c := c) (olds := r.cs) (K0 := delK u K) (fz := r.fz) (fl := r.flat) hθ ho hd hN hi hki hi' hk' hj hz0 hz1 hs hx happ hm (.inr ⟨u, r, rfl, hr, rfl, hroom, hel, hnc, hcm, rfl, id, id⟩) hol hflat h63 hby hL hK hnn hD ?_)
  intro cap h1 h2
  exact ⟨hkp cap, hk cap h1 h2⟩
end
end Go.Proofs.Ytnkddjdmpnghmaa.Am
namespace Go.Proofs.Ytnkddjdmpnghmaa.Am
set_option linter.unusedSimpArgs false
set_option linter.unusedVariables false
open Go Go.RowKit
section
variable {X : Cx} {F : Mem} {L : Slots} {K : Own} {s : List SI} {ops : Array Oper} {lo : List Oper}
/-- a row that a slot shows as a slice gets another tag -/
theorem JL.retagS {d t u n c : Nat} {r : Row} (Lk : Slots) (Kk : Own) (h : JL X ops lo s F ((d, .slice (some ⟨u, 0, some 0⟩) n c) :: Lk) ((u, r) :: Kk)) (hd : L.lookup d = some (.slice (some ⟨t, 0, some 0⟩) n c) := by rfl) (hr : K.lookup t = some r := by rfl)
    (hLk : LSub Lk L := by repeat' first | exact trivial | refine And.intro rfl ?_) (hKk : KSub ((t, r) :: Kk) K := by repeat' first | exact trivial | refine And.intro rfl ?_) (hL : ntL u Lk = true := by rfl) (hK : ntK u Kk = true := by rfl) (hru : (r.flat || r.cs.all (nt1 u)) = true := by rfl) (hD : X.D.contains u = false := by rfl) : JL X ops lo s F L K := by
  intro ι a w hF hS
  have hS1 := hS.weak hKk
  have hagree : ∀ v ∈ X.D, upd ι u (ι t) v = ι v := fun v hv => upd_ne ι (fun e => by subst e; simp at hD; exact hD hv)
  refine JL.tr hagree (h (upd ι u (ι t)) a w ?_ (hS1.retag hK hru))
  have hF0 := hF.weak hLk
  refine ⟨hF.size, hF.defers, fun s v hv => ?_⟩
  rw [List.lookup_cons] at hv
  split at hv
  · rename_i e
    have e1 : s = d := by simpa using e
    subst e1
    simp only [Option.some.injEq] at hv
    subst hv
    have := hF.slot s _ hd
    simpa [upd_eq] using this
  · have e1 := (hF0.nt (κ := upd ι u (ι t)) (t := u) (fun v hv => upd_ne ι hv) hL).slot s v hv
    exact e1
end
section
variable {X : Cx} {F : Mem} {L : Slots} {K : Own} {s : List SI} {ops : Array Oper} {lo : List Oper}
/-- a row that a cell of another row points to gets another tag -/
theorem JL.retagCP {A t u off p : Nat} {rA r : Row} (Lk : Slots) (Kk : Own) (h : JL X ops lo s F Lk (setK A { rA with cs := rA.cs.set off (.pointer (some ⟨u, p, some 0⟩)) } ((u, r) :: (A, rA) :: Kk)))
    (hA : K.lookup A = some rA := by rfl) (hr : K.lookup t = some r := by rfl) (hcell : rA.cs[off]? = some (.pointer (some ⟨t, p, some 0⟩)) := by rfl) (hfA : rA.flat = false := by rfl) (hAu : (A == u) = false := by rfl)
    (hLk : LSub Lk L := by repeat' first | exact trivial | refine And.intro rfl ?_) (hKk : KSub ((t, r) :: (A, rA) :: Kk) K := by repeat' first | exact trivial | refine And.intro rfl ?_) (hL : ntL u Lk = true := by rfl) (hK : ntK u ((A, rA) :: Kk) = true := by rfl) (hru : (r.flat || r.cs.all (nt1 u)) = true := by rfl) (hD : X.D.contains u = false := by rfl) : JL X ops lo s F L K := by
  intro ι a w hF hS
  have hS1 := hS.weak hKk
  have hagree : ∀ v ∈ X.D, upd ι u (ι t) v = ι v := fun v hv => upd_ne ι (fun e => by subst e; simp at hD; exact hD hv)
  have hS2 := hS1.retag hK hru
  have hlk : ((u, r) :: (A, rA) :: Kk).lookup A = some rA := by
    rw [List.lookup_cons, hAu, List.lookup_cons_self]
  have htt : upd ι u (ι t) t = ι t := by
    by_cases e : t = u
    · subst e; exact upd_eq ..
    · exact upd_ne ι e
  have hc : ({ rA with cs := rA.cs.set off (.pointer (some ⟨u, p, some 0⟩)) } : Row).c (upd ι u (ι t)) = rA.c (upd ι u (ι t)) := by
    simp only [Row.c]
    congr 1
    rw [List.map_set]
    apply List.ext_getElem?
    intro j
    rw [List.getElem?_set]
    split
    · rename_i e
      subst e
      have hlt := (List.getElem?_eq_some_iff.1 hcell).1
      rw [List.length_map, if_pos hlt, List.getElem?_map, hcell]
      show some (c1 _ (.pointer (some ⟨u, p, some 0⟩))) = some (c1 _ (.pointer (some ⟨t, p, some 0⟩)))
      show some (Value.pointer (some ⟨upd ι u (ι t) u, p, none⟩)) = some (Value.pointer (some ⟨upd ι u (ι t) t, p, none⟩))
      rw [htt, upd_eq]
    · rfl
  have hh := (hS2.own (A, rA) (by simp)).2.1
  refine JL.tr hagree (h (upd ι u (ι t)) a w ?_ (hS2.set hlk (fun _ _ => rfl) rfl rfl rfl rfl (by rw [hc]; exact hh) (fun hf => by rw [show ({ rA with cs := rA.cs.set off (.pointer (some ⟨u, p, some 0⟩)) } : Row).flat = rA.flat from rfl, hfA] at hf; cases hf)))
  exact (hF.weak hLk).nt (κ := upd ι u (ι t)) (t := u) (fun v hv => upd_ne ι hv) hL
end
end Go.Proofs.Ytnkddjdmpnghmaa.Am
