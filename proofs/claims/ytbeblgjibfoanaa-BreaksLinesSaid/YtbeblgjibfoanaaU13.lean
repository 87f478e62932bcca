/- The best way: what is computed -/
import Derived.Test.YtbeblgjibfoanaaU11
import Derived.Test.YtbeblgjibfoanaaU12a
namespace Go.Proofs.Ytbeblgjibfoanaa.Am
set_option linter.unusedSimpArgs false
set_option linter.unusedVariables false
set_option maxRecDepth 100000
set_option maxHeartbeats 4000000
open Go Go.RowKit
/-- may one go on from a1 with a line up to b, by what is known behind b? -/
def okB (l : List Item) (x : Par) (t : Nat → Nat → Int × Int) (a1 b : Nat) : Bool :=
  legalB l b && ((judD l x a1 b).fits && (!decide (b < l.length - 1) || !decide ((t (b + 1) (judD l x a1 b).cls.toNat).1 = 0)))
def cstB (l : List Item) (x : Par) (t : Nat → Nat → Int × Int) (a1 b c : Nat) : Int :=
  demD l x (judD l x a1 b).bad (judD l x a1 b).cls c ((a1 : Int) - 1) b + (if b < l.length - 1 then (t (b + 1) (judD l x a1 b).cls.toNat).2 else 0)
def updB (l : List Item) (x : Par) (t : Nat → Nat → Int × Int) (a1 b : Nat) (acc : Nat → Int × Int) (c : Nat) : Int × Int :=
  if (acc c).1 = 0 ∨ cstB l x t a1 b c < (acc c).2 then ((b : Int), cstB l x t a1 b c) else acc c
def bRow (l : List Item) (x : Par) (t : Nat → Nat → Int × Int) (a1 : Nat) : Nat → Nat → Int × Int
  | 0 => fun _ => (0, 0)
  | m + 1 => if okB l x t a1 (a1 + m) = true then updB l x t a1 (a1 + m) (bRow l x t a1 m) else bRow l x t a1 m
def rowD (l : List Item) (x : Par) (t : Nat → Nat → Int × Int) (a1 : Nat) : Nat → Int × Int :=
  if a1 = 0 ∨ legalB l ((a1 : Int) - 1) = true then bRow l x t a1 (foA l a1 + 1 - a1) else fun _ => (0, 0)
/-- by the place of a break (one higher), and the class of the line ahead: where one goes on to, and what that costs; the last k places are done -/
def tabD (l : List Item) (x : Par) : Nat → Nat → Nat → Int × Int
  | 0 => fun _ _ => (0, 0)
  | k + 1 => fun i => if i + k + 1 = l.length then rowD l x (tabD l x k) i else tabD l x k i
def pathB (l : List Item) (x : Par) (t : Nat → Nat → Int × Int) : Nat → Nat → Int → List Int
  | 0, _, _ => []
  | d + 1, a1, cls => if a1 < l.length then (t a1 cls.toNat).1 :: pathB l x t d ((t a1 cls.toNat).1 + 1).toNat (judD l x a1 (t a1 cls.toNat).1.toNat).cls else []
def bestD (l : List Item) (x : Par) : List Int × Int × Bool :=
  if goodL l = true ∧ x.good = true ∧ (tabD l x l.length 0 1).1 ≠ 0 then (pathB l x (tabD l x l.length) l.length 0 1, (tabD l x l.length 0 1).2, true) else ([], 0, false)
theorem classD_bd (y z : Int) (f : Bool) : 0 ≤ classD y z f ∧ classD y z f ≤ 3 := by
  unfold classD
  (repeat' split) <;> omega
theorem judD_cls (l : List Item) (x : Par) (a1 b : Nat) : 0 ≤ (judD l x a1 b).cls ∧ (judD l x a1 b).cls ≤ 3 := by
  unfold judD
  split <;> exact classD_bd _ _ _
theorem tabD_none {l : List Item} {x : Par} : ∀ {k i : Nat}, i + k < l.length → tabD l x k i = fun _ => (0, 0)
  | 0, _, _ => rfl
  | k + 1, i, h => by
    simp only [tabD]
    rw [if_neg (by omega)]
    exact tabD_none (by omega)
theorem tabD_out {l : List Item} {x : Par} : ∀ {k i : Nat}, l.length ≤ i → tabD l x k i = fun _ => (0, 0)
  | 0, _, _ => rfl
  | k + 1, i, h => by
    simp only [tabD]
    rw [if_neg (by omega)]
    exact tabD_out (by omega)
theorem tabD_stable {l : List Item} {x : Par} {j : Nat} (hj : j < l.length) : ∀ {k : Nat}, l.length ≤ j + k → tabD l x k j = rowD l x (tabD l x (l.length - 1 - j)) j
  | 0, h => by omega
  | k + 1, h => by
    simp only [tabD]
    by_cases hk : j + k + 1 = l.length
    · rw [if_pos hk, show l.length - 1 - j = k from by omega]
    · rw [if_neg hk]
      exact tabD_stable hj (by omega)
theorem tabD_same {l : List Item} {x : Par} {j k k' : Nat} (h : l.length ≤ j + k) (h' : l.length ≤ j + k') : tabD l x k j = tabD l x k' j := by
  by_cases hj : j < l.length
  · rw [tabD_stable hj h, tabD_stable hj h']
  · rw [tabD_out (by omega), tabD_out (by omega)]
/-- bounds of what stands in the table -/
structure TabOk (l : List Item) (i : Nat) (p : Int × Int) : Prop where
  lo : 0 ≤ p.1
  hi : p.1 < l.length
  up : p.1 = 0 ∨ (i : Int) ≤ p.1
  cl : -(223000000 * ((l.length : Int) - i)) ≤ p.2
  ch : p.2 ≤ 223000000 * ((l.length : Int) - i)
theorem TabOk.zero {l : List Item} {i : Nat} (h : i ≤ l.length) (h0 : 0 < l.length) : TabOk l i (0, 0) := ⟨by simp, by simp; omega, .inl rfl, by simp; omega, by simp; omega⟩
theorem cstB_bd {l : List Item} {x : Par} {t : Nat → Nat → Int × Int} {a1 b c : Nat} (hb : b < l.length) (hab : a1 ≤ b) (ht : ∀ i c, i < l.length → TabOk l i (t i c)) : -(223000000 * ((l.length : Int) - a1)) ≤ cstB l x t a1 b c ∧ cstB l x t a1 b c ≤ 223000000 * ((l.length : Int) - a1) := by
  have h1 := demD_bd l x (judD l x a1 b).bad (judD l x a1 b).cls c ((a1 : Int) - 1) b
  unfold cstB
  split
  · have h2 := ht (b + 1) (judD l x a1 b).cls.toNat (by omega)
    have h3 := h2.cl
    have h4 := h2.ch
    constructor <;> omega
  · constructor <;> omega
theorem bRow_ok {l : List Item} {x : Par} {t : Nat → Nat → Int × Int} {a1 : Nat} (ht : ∀ i c, i < l.length → TabOk l i (t i c)) (ha : a1 < l.length) : ∀ m, a1 + m ≤ l.length → ∀ c, TabOk l a1 (bRow l x t a1 m c)
  | 0, _, c => TabOk.zero (by omega) (by omega)
  | m + 1, h, c => by
    have ih := bRow_ok (x := x) ht ha m (by omega) c
    simp only [bRow]
    split
    · unfold updB
      split
      · have hc := cstB_bd (x := x) (c := c) (show a1 + m < l.length by omega) (show a1 ≤ a1 + m by omega) ht
        exact ⟨by dsimp only; omega, by dsimp only; omega, .inr (by dsimp only; omega), hc.1, hc.2⟩
      · exact ih
    · exact ih
theorem tabD_ok {l : List Item} {x : Par} (hg : goodL l = true) : ∀ k i c, i < l.length → TabOk l i (tabD l x k i c)
  | 0, i, c, h => TabOk.zero (by omega) (by omega)
  | k + 1, i, c, h => by
    simp only [tabD]
    split
    · unfold rowD
      split
      · have := foA_last hg h
        exact bRow_ok (tabD_ok hg k) h _ (by omega) c
      · exact TabOk.zero (by omega) (by omega)
    · exact tabD_ok hg k i c h
/-- where one goes on to, one may go on -/
theorem bRow_next {l : List Item} {x : Par} {t : Nat → Nat → Int × Int} {a1 : Nat} : ∀ m c, (bRow l x t a1 m c).1 ≠ 0 → ∃ b, a1 ≤ b ∧ b < a1 + m ∧ (bRow l x t a1 m c).1 = (b : Nat) ∧ okB l x t a1 b = true
  | 0, c, h => by simp [bRow] at h
  | m + 1, c, h => by
    simp only [bRow] at h ⊢
    split
    · rename_i hk
      rw [if_pos hk] at h
      unfold updB at h ⊢
      split
      · exact ⟨a1 + m, by omega, by omega, rfl, hk⟩
      · rename_i hn
        rw [if_neg hn] at h
        obtain ⟨b, h1, h2, h3, h4⟩ := bRow_next m c h
        exact ⟨b, h1, by omega, h3, h4⟩
    · rename_i hk
      rw [if_neg hk] at h
      obtain ⟨b, h1, h2, h3, h4⟩ := bRow_next m c h
      exact ⟨b, h1, by omega, h3, h4⟩
theorem tab_next {l : List Item} {x : Par} (hg : goodL l = true) {a1 c : Nat} (ha : a1 < l.length) (h : (tabD l x l.length a1 c).1 ≠ 0) :
    ∃ b, a1 ≤ b ∧ b < l.length ∧ (tabD l x l.length a1 c).1 = (b : Nat) ∧ legalB l b = true ∧ (judD l x a1 b).fits = true ∧ (b + 1 < l.length → (tabD l x l.length (b + 1) (judD l x a1 b).cls.toNat).1 ≠ 0) := by
  rw [tabD_stable ha (by omega)] at h ⊢
  unfold rowD at h ⊢
  split
  · rename_i hl
    rw [if_pos hl] at h
    obtain ⟨b, h1, h2, h3, h4⟩ := bRow_next _ c h
    have hf := foA_last hg ha
    simp only [okB, Bool.and_eq_true, Bool.or_eq_true, Bool.not_eq_true', decide_eq_false_iff_not] at h4
    obtain ⟨h5, h6, h7⟩ := h4
    refine ⟨b, h1, by omega, h3, h5, h6, fun hb => ?_⟩
    rw [tabD_same (k := l.length) (k' := l.length - 1 - a1) (by omega) (by omega)]
    rcases h7 with h7 | h7
    · omega
    · exact h7
  · rename_i hl
    rw [if_neg hl] at h
    simp at h

end Go.Proofs.Ytbeblgjibfoanaa.Am
