/- Contracts: a paragraph made ready, its lines -/
import Derived.Test.YtbeblgjibfoanaaU5
namespace Go.Proofs.Ytbeblgjibfoanaa.Am
set_option linter.unusedSimpArgs false
set_option linter.unusedVariables false
set_option maxRecDepth 100000
set_option maxHeartbeats 4000000
open Go Go.RowKit
def wS (l : List Item) : Nat → Int
  | 0 => 0
  | n + 1 => wS l n + (if (at_ l n).kind = 3 then 0 else (at_ l n).width)
def yS (l : List Item) : Nat → Int
  | 0 => 0
  | n + 1 => yS l n + (if (at_ l n).kind = 2 then (at_ l n).stretch else 0)
def zS (l : List Item) : Nat → Int
  | 0 => 0
  | n + 1 => zS l n + (if (at_ l n).kind = 2 then (at_ l n).shrink else 0)
def foD (l : List Item) : Nat → Nat → Nat
  | 0, i => i
  | d + 1, i => if forceB (at_ l i) = true then i else foD l d (i + 1)
def bgD (l : List Item) : Nat → Nat → Nat
  | 0, i => i
  | d + 1, i => if forceB (at_ l i) = true then i else if (at_ l i).kind = 1 then i else bgD l d (i + 1)
def foA (l : List Item) (i : Nat) : Nat := foD l (l.length - i) i
def bgA (l : List Item) (i : Nat) : Nat := bgD l (l.length - i) i
theorem foD_bd (l : List Item) : ∀ d i, i ≤ foD l d i ∧ foD l d i ≤ i + d
  | 0, i => by simp [foD]
  | d + 1, i => by
    simp only [foD]
    have := foD_bd l d (i + 1)
    split <;> omega
theorem bgD_bd (l : List Item) : ∀ d i, i ≤ bgD l d i ∧ bgD l d i ≤ i + d
  | 0, i => by simp [bgD]
  | d + 1, i => by
    simp only [bgD]
    have := bgD_bd l d (i + 1)
    split
    · omega
    · split <;> omega
theorem good_ok {l : List Item} (h : goodL l = true) {i : Nat} (hi : i < l.length) : (at_ l i).ok = true := by
  simp only [goodL, Bool.and_eq_true] at h
  exact List.all_eq_true.1 h.1.1.1.2 _ (List.mem_of_getElem? (at_get hi))
theorem good_len {l : List Item} (h : goodL l = true) : 1 ≤ l.length ∧ l.length ≤ 1024 := by
  simp only [goodL, Bool.and_eq_true, decide_eq_true_eq] at h
  exact h.1.1.1.1
theorem sums_bd {l : List Item} (h : goodL l = true) : ∀ n, n ≤ l.length → (0 ≤ wS l n ∧ wS l n ≤ 1073741824 * n) ∧ (0 ≤ yS l n ∧ yS l n ≤ 1073741824 * n) ∧ (0 ≤ zS l n ∧ zS l n ≤ 1073741824 * n)
  | 0, _ => by simp [wS, yS, zS]
  | n + 1, hn => by
    have ih := sums_bd h n (by omega)
    have hk := good_ok h (show n < l.length by omega)
    simp only [Item.ok, decide_eq_true_eq] at hk
    simp only [wS, yS, zS]
    refine ⟨?_, ?_, ?_⟩ <;> split <;> omega
/-- a paragraph made ready, where it lies -/
def RPara (F : Mem) (p : Value) (l : List Item) : Prop :=
  ∃ pb po lb lo lc wb wo wc yb yo yc zb zo zc bb bo bc fb fo fc, p = .pointer (some ⟨pb, po, none⟩) ∧
    (look F ⟨pb, po + 0, none⟩ = some (.slice (some ⟨lb, lo, none⟩) l.length lc) ∧ look F ⟨pb, po + 1, none⟩ = some (.slice (some ⟨wb, wo, none⟩) (l.length + 1) wc) ∧ look F ⟨pb, po + 2, none⟩ = some (.slice (some ⟨yb, yo, none⟩) (l.length + 1) yc) ∧
    look F ⟨pb, po + 3, none⟩ = some (.slice (some ⟨zb, zo, none⟩) (l.length + 1) zc) ∧ look F ⟨pb, po + 4, none⟩ = some (.slice (some ⟨bb, bo, none⟩) (l.length + 1) bc) ∧ look F ⟨pb, po + 5, none⟩ = some (.slice (some ⟨fb, fo, none⟩) (l.length + 1) fc)) ∧
    RItems F (.slice (some ⟨lb, lo, none⟩) l.length lc) l ∧
    (∀ i, i ≤ l.length → look F ⟨wb, wo + i * 1, none⟩ = some (.int .i64 (wS l i)) ∧ look F ⟨yb, yo + i * 1, none⟩ = some (.int .i64 (yS l i)) ∧ look F ⟨zb, zo + i * 1, none⟩ = some (.int .i64 (zS l i)) ∧
      look F ⟨bb, bo + i * 1, none⟩ = some (.int .i64 (bgA l i)) ∧ look F ⟨fb, fo + i * 1, none⟩ = some (.int .i64 (foA l i)))
theorem RPara.le {F F' : Mem} {p : Value} {l : List Item} (h : RPara F p l) (hl : F.le F') : RPara F' p l := by
  obtain ⟨pb, po, lb, lo, lc, wb, wo, wc, yb, yo, yc, zb, zo, zc, bb, bo, bc, fb, fo, fc, h0, ⟨h1, h2, h3, h4, h5, h6⟩, h7, h8⟩ := h
  refine ⟨pb, po, lb, lo, lc, wb, wo, wc, yb, yo, yc, zb, zo, zc, bb, bo, bc, fb, fo, fc, h0, ⟨hl _ _ h1, hl _ _ h2, hl _ _ h3, hl _ _ h4, hl _ _ h5, hl _ _ h6⟩, h7.le hl, fun i hi => ?_⟩
  obtain ⟨g1, g2, g3, g4, g5⟩ := h8 i hi
  exact ⟨hl _ _ g1, hl _ _ g2, hl _ _ g3, hl _ _ g4, hl _ _ g5⟩
def lineV (w y z bad cls : Int) (fits : Bool) : Value := .agg #[.int .i64 w, .int .i64 y, .int .i64 z, .int .i64 bad, .int .i64 cls, .bool fits]
def fromA (l : List Item) (a1 b : Nat) : Nat := min (bgA l a1) b
def mW (l : List Item) (a1 b : Nat) : Int := wS l b - wS l (fromA l a1 b) + (if (at_ l b).kind = 3 then (at_ l b).width else 0)
def mY (l : List Item) (a1 b : Nat) : Int := yS l b - yS l (fromA l a1 b)
def mZ (l : List Item) (a1 b : Nat) : Int := zS l b - zS l (fromA l a1 b)
theorem measure_C (F : Mem) (p : Value) (l : List Item) (a : Int) (a1 b : Nat) (hp : RPara F p l) (hg : goodL l = true) (ha : a + 1 = a1) (ha1 : a1 ≤ l.length) (hb : b < l.length) : C0 Try.prog 44 [p, .int .i64 a, .int .i64 b] F (lineV (mW l a1 b) (mY l a1 b) (mZ l a1 b) 0 0 false) := by
  obtain ⟨pb, po, lb, lo, lc, wb, wo, wc, yb, yo, yc, zb, zo, zc, bb, bo, bc, fb, fo, fc, rfl, ⟨h1, h2, h3, h4, h5, h6⟩, h7, h8⟩ := hp
  have hlen := good_len hg
  have hok := good_ok hg hb
  simp only [Item.ok, decide_eq_true_eq] at hok
  obtain ⟨_, _, _, q1, _⟩ := h8 a1 ha1
  have hfr : fromA l a1 b ≤ b := Nat.min_le_right _ _
  obtain ⟨g1, g2, g3, _, _⟩ := h8 b (by omega)
  obtain ⟨f1, f2, f3, _, _⟩ := h8 (fromA l a1 b) (by omega)
  have s1 := sums_bd hg b (by omega)
  have s2 := sums_bd hg (fromA l a1 b) (by omega)
  have hfi : min (bgA l a1 : Int) (b : Int) = (fromA l a1 b : Nat) := by unfold fromA; omega
  rcases h7.cases with ⟨lb', lo', lc', e1, _, hr⟩ | ⟨e1, _⟩
  · simp only [Value.slice.injEq, Option.some.injEq, Addr.mk.injEq, and_true, true_and] at e1
    obtain ⟨⟨rfl, rfl⟩, rfl⟩ := e1
    obtain ⟨r0, r1, _, _, _, _, _⟩ := hr b hb
    simp only [mW, mY, mZ]
    clear h8 hr h7 hg
    generalize fromA l a1 b = f at *
    generalize at_ l b = x at *
    generalize bgA l a1 = g at *
    generalize wS l b = w at *
    generalize wS l f = w2 at *
    generalize yS l b = y at *
    generalize yS l f = y2 at *
    generalize zS l b = z at *
    generalize zS l f = z2 at *
    have q1' : look F ⟨bb, bo + (a + 1).toNat * 1, none⟩ = some (.int .i64 (g : Int)) := by rw [ha]; exact q1
    refine C.go hT Try.func44 Try.ntmps44 ?_
    (repeat (first | refine st ?_ | refine nl ?_ | refine sq ?_ | refine rg ?_ | refine bl ?_ | refine sk ?_ | refine bk ?_ | refine bx ?_ | refine al ?_ | refine so ?_ | refine mk ?_ | refine ex ?_ | refine lb ?_ | refine cT ?_ | refine cF ?_ | refine sg ?_ | refine sp ?_ | refine su ?_))
    rw [hfi]
    refine dr 47 [6] [0, 1, 2, 3, 4, 5, 6, 7, 8, 9, 10, 11, 12, 13, 14, 15, 16, 17, 18, 19, 20, 21, 22, 23, 24, 25, 26, 27, 28, 29, 30, 31, 32, 33, 34, 35, 36, 37, 38, 39, 40, 41, 42, 43, 44, 45, 1046, 1047] ?_
    (repeat (first | refine dt ?_ | refine dg ?_ | refine dp ?_ | refine du ?_ | refine dq ?_ | refine dqg ?_ | refine dqp ?_ | refine dqu ?_ | refine dso ?_ | refine dal ?_ | refine dmk ?_ | refine dbx ?_ | refine dv ?_ | refine dpe ?_ | refine dn ?_ | refine st ?_ | refine nl ?_ | refine sq ?_ | refine rg ?_ | refine bl ?_ | refine sk ?_ | refine bk ?_ | refine bx ?_ | refine al ?_ | refine so ?_ | refine mk ?_ | refine ex ?_ | refine lb ?_ | refine cT ?_ | refine cF ?_ | refine sg ?_ | refine sp ?_ | refine su ?_))
    refine cD (fun hk => ?_) (fun hk => ?_)
    · refine dr 12 [6, 8] [0, 1, 2, 3, 4, 5, 6, 7, 8, 9, 10, 11, 1012] ?_
      (repeat (first | refine dt ?_ | refine dg ?_ | refine dp ?_ | refine du ?_ | refine dq ?_ | refine dqg ?_ | refine dqp ?_ | refine dqu ?_ | refine dso ?_ | refine dal ?_ | refine dmk ?_ | refine dbx ?_ | refine dv ?_ | refine dpe ?_ | refine dn ?_ | refine st ?_ | refine nl ?_ | refine sq ?_ | refine rg ?_ | refine bl ?_ | refine sk ?_ | refine bk ?_ | refine bx ?_ | refine al ?_ | refine so ?_ | refine mk ?_ | refine ex ?_ | refine lb ?_ | refine cT ?_ | refine cF ?_ | refine sg ?_ | refine sp ?_ | refine su ?_))
      exact rt ⟨by rw [if_pos hk], rfl⟩
    · (repeat (first | refine st ?_ | refine nl ?_ | refine sq ?_ | refine rg ?_ | refine bl ?_ | refine sk ?_ | refine bk ?_ | refine bx ?_ | refine al ?_ | refine so ?_ | refine mk ?_ | refine ex ?_ | refine lb ?_ | refine cT ?_ | refine cF ?_ | refine sg ?_ | refine sp ?_ | refine su ?_))
      exact rt ⟨by rw [if_neg hk, Int.add_zero], rfl⟩
  · simp at e1

end Go.Proofs.Ytbeblgjibfoanaa.Am
