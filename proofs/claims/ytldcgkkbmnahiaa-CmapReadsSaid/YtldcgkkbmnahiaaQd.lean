/- both readers tell the same -/
import Derived.Test.YtldcgkkbmnahiaaQc
import Derived.Test.YtldcgkkbmnahiaaPxx10
import Derived.Test.YtldcgkkbmnahiaaQf
namespace Go.Proofs.Ytldcgkkbmnahiaa.Px
set_option linter.unusedSimpArgs false
set_option linter.unusedVariables false
open Go.RowKit Go.Proofs.YtldcgkkbmnahiaaW.PrintWords Go.Proofs.YtldcgkkbmnahiaaW.PrintLast Go.Proofs.YtldcgkkbmnahiaaW.PrintMore

/-- a row of the table of maps -/
def mP (t : ByteArray) (i : Int) : Int := tw t (4 + 8 * i)
def mE (t : ByteArray) (i : Int) : Int := tw t (6 + 8 * i)
def mA (t : ByteArray) (i : Int) : Int := fo t (8 + 8 * i)
def isW (t : ByteArray) (i : Int) : Bool := (mP t i == 3 && mE t i == 10) || (mP t i == 0 && mE t i == 4)
def isN (t : ByteArray) (i : Int) : Bool := (mP t i == 3 && mE t i == 1) || (mP t i == 0 && decide (mE t i ≤ 3))
/-- the first wide one, the first narrow one; -1: none -/
def fW (t : ByteArray) : Nat → Int → Int
  | 0, _ => -1
  | r + 1, i => if isW t i = true then i else fW t r (i + 1)
def fN (t : ByteArray) : Nat → Int → Int
  | 0, _ => -1
  | r + 1, i => if isN t i = true then i else fN t r (i + 1)
def countL (t : ByteArray) (r : Nat) (i at_ : Int) (ok : Bool) : Int × Bool × Bool :=
  if 0 ≤ fW t r i then (mA t (fW t r i), true, true)
  else if ok = true then (at_, false, true)
  else if 0 ≤ fN t r i then (mA t (fN t r i), false, true)
  else (at_, false, false)
def countS (t : ByteArray) : Int × Bool × Bool :=
  if (t.size : Int) < 4 then (0, false, false)
  else if tw t 0 ≠ 0 then (0, false, false)
  else if (t.size : Int) < 4 + 8 * tw t 2 then (0, false, false)
  else countL t (tw t 2).toNat 0 0 false
theorem fW_bd (t : ByteArray) : ∀ (r : Nat) (i : Int), fW t r i = -1 ∨ (i ≤ fW t r i ∧ fW t r i < i + r) := by
  intro r
  induction r with
  | zero => intro i; left; rfl
  | succ r ih =>
    intro i
    simp only [fW]
    split
    · right; omega
    · rcases ih (i + 1) with h | h
      · left; exact h
      · right; omega
theorem fN_bd (t : ByteArray) : ∀ (r : Nat) (i : Int), fN t r i = -1 ∨ (i ≤ fN t r i ∧ fN t r i < i + r) := by
  intro r
  induction r with
  | zero => intro i; left; rfl
  | succ r ih =>
    intro i
    simp only [fN]
    split
    · right; omega
    · rcases ih (i + 1) with h | h
      · left; exact h
      · right; omega
theorem countL_W {t : ByteArray} {r : Nat} {i at_ : Int} {ok : Bool} (h0 : 0 ≤ i) (h : isW t i = true) : countL t (r + 1) i at_ ok = (mA t i, true, true) := by
  unfold countL
  have e : fW t (r + 1) i = i := by simp only [fW]; rw [if_pos h]
  rw [e, if_pos h0]
theorem countL_N {t : ByteArray} {r : Nat} {i at_ : Int} (h0 : 0 ≤ i) (h : isW t i = false) (h2 : isN t i = true) : countL t (r + 1) i at_ false = countL t r (i + 1) (mA t i) true := by
  unfold countL
  have e : fW t (r + 1) i = fW t r (i + 1) := by simp only [fW]; rw [if_neg (by simp [h])]
  have e2 : fN t (r + 1) i = i := by simp only [fN]; rw [if_pos h2]
  rw [e, e2]
  split
  · rfl
  · simp [h0]
theorem countL_ok {t : ByteArray} {r : Nat} {i at_ : Int} (h : isW t i = false) : countL t (r + 1) i at_ true = countL t r (i + 1) at_ true := by
  unfold countL
  have e : fW t (r + 1) i = fW t r (i + 1) := by simp only [fW]; rw [if_neg (by simp [h])]
  rw [e]
  split
  · rfl
  · rw [if_pos rfl, if_pos rfl]
theorem countL_no {t : ByteArray} {r : Nat} {i at_ : Int} (h : isW t i = false) (h2 : isN t i = false) : countL t (r + 1) i at_ false = countL t r (i + 1) at_ false := by
  unfold countL
  have e : fW t (r + 1) i = fW t r (i + 1) := by simp only [fW]; rw [if_neg (by simp [h])]
  have e2 : fN t (r + 1) i = fN t r (i + 1) := by simp only [fN]; rw [if_neg (by simp [h2])]
  rw [e, e2]
theorem map_rows {t : ByteArray} {i m : Int} (hs : t.size ≤ 140737488351232) (h0 : 0 ≤ i) (h1 : i < m) (hm : m ≤ 65535) (h2 : 4 + 8 * m ≤ (t.size : Int)) :
    wrap64 (4 + (wrap64 (8 * i))) = 4 + 8 * i ∧ cmap_two.f t (4 + 8 * i) = some (mP t i) ∧ cmap_two.f t (wrap64 (4 + 8 * i + 2)) = some (mE t i) ∧ cmap_four.f t (wrap64 (4 + 8 * i + 4)) = some (mA t i) ∧
    colophonref08_U2.f t (wrap64 (4 + (wrap64 (8 * i)))) = some (mP t i) ∧ colophonref08_U2.f t (wrap64 (6 + (wrap64 (8 * i)))) = some (mE t i) ∧ colophonref08_U4.f t (wrap64 (8 + (wrap64 (8 * i)))) = some (mA t i) := by
  have hs' : t.size ≤ 9223372036854775807 := by omega
  unfold mP mE mA
  rw [wrap64_small (x := 8 * i) (by omega) (by omega), wrap64_small (x := 4 + 8 * i) (by omega) (by omega), wrap64_small (x := 4 + 8 * i + 2) (by omega) (by omega), wrap64_small (x := 4 + 8 * i + 4) (by omega) (by omega), wrap64_small (x := 6 + 8 * i) (by omega) (by omega), wrap64_small (x := 8 + 8 * i) (by omega) (by omega)]
  rw [show (4 : Int) + 8 * i + 2 = 6 + 8 * i from by omega, show (4 : Int) + 8 * i + 4 = 8 + 8 * i from by omega]
  rw [two_f t _ (by omega) (by omega) hs', two_f t _ (by omega) (by omega) hs', four_f t _ (by omega) (by omega) hs', U2_f t _ hs', U2_f t _ hs', U4_f t _ hs' (by omega) (by omega), u2_in (by omega) (by omega), u2_in (by omega) (by omega), u4_in (by omega) (by omega)]
  exact ⟨rfl, rfl, rfl, rfl, rfl, rfl, rfl⟩
theorem counted_l0 (t : ByteArray) (m : Int) (hs : t.size ≤ 140737488351232) (hm : m ≤ 65535) (h2 : 4 + 8 * m ≤ (t.size : Int)) : ∀ (r : Nat) (i at_ : Int) (ok : Bool), 0 ≤ i → i + r = m →
    Ev (fun k => cmap_counted.l0 k t at_ ok m i) (countL t r i at_ ok) := by
  intro r
  induction r with
  | zero =>
    intro i at_ ok h0 h1
    have e : countL t 0 i at_ ok = (at_, false, ok) := by unfold countL; simp only [fW, fN]; cases ok <;> rfl
    rw [e]
    refine Ev.step (f := fun _ => some (at_, false, ok)) (fun k => ?_) (Ev.now _)
    rw [cmap_counted.l0, if_neg (by omega)]
  | succ r ih =>
    intro i at_ ok h0 h1
    obtain ⟨e0, e1, e2, e3, _, _, _⟩ := map_rows (t := t) (i := i) (m := m) hs h0 (by omega) hm h2
    have ei : wrap64 (i + 1) = i + 1 := wrap64_small (by omega) (by omega)
    refine Ev.step (f := fun k => cmap_counted.j2 k t at_ ok (4 + 8 * i) (mP t i) (mE t i) m i (isW t i)) (fun k => ?_) ?_
    · rw [cmap_counted.l0, if_pos (by omega), e0, e1, e2]
      simp only [Option.bind_some]
      unfold isW
      by_cases a1 : mP t i = 3
      · rw [if_pos a1]
        by_cases a2 : mE t i = 10
        · rw [if_pos a2, beq_iff_eq.2 a1, beq_iff_eq.2 a2]; rfl
        · rw [if_neg a2, if_neg (by omega), beq_eq_false_iff_ne.2 a2, beq_eq_false_iff_ne.2 (show mP t i ≠ 0 by omega)]; simp
      · rw [if_neg a1, beq_eq_false_iff_ne.2 a1]
        by_cases a3 : mP t i = 0
        · rw [if_pos a3, beq_iff_eq.2 a3]; simp
        · rw [if_neg a3, beq_eq_false_iff_ne.2 a3]; simp
    · cases hw : isW t i with
      | true =>
        rw [countL_W h0 hw]
        refine Ev.step (f := fun _ => some (mA t i, true, true)) (fun k => ?_) (Ev.now _)
        simp only [cmap_counted.j2]
        rw [if_pos trivial, e3]; rfl
      | false =>
        cases ok with
        | true =>
          rw [countL_ok hw]
          refine Ev.step (fun k => ?_) (ih (i + 1) at_ true (by omega) (by omega))
          simp only [cmap_counted.j2]
          rw [if_neg (by decide), if_pos trivial, ei]
        | false =>
          cases hn : isN t i with
          | true =>
            rw [countL_N h0 hw hn]
            refine Ev.step (fun k => ?_) (ih (i + 1) (mA t i) true (by omega) (by omega))
            simp only [cmap_counted.j2]
            rw [if_neg (by decide), if_neg (by decide), e3, ei]
            simp only [Option.bind_some]
            unfold isN at hn
            by_cases a1 : mP t i = 3
            · rw [if_pos a1]
              by_cases a2 : mE t i = 1
              · rw [if_pos a2]
              · exfalso; simp [a1, a2] at hn
            · rw [if_neg a1]
              by_cases a3 : mP t i = 0
              · rw [if_pos a3]
                by_cases a4 : mE t i ≤ 3
                · rw [if_pos a4]
                · exfalso; simp [a3, a4] at hn
              · exfalso; simp [a1, a3] at hn
          | false =>
            rw [countL_no hw hn]
            refine Ev.step (fun k => ?_) (ih (i + 1) at_ false (by omega) (by omega))
            simp only [cmap_counted.j2]
            rw [if_neg (by decide), if_neg (by decide), e3, ei]
            simp only [Option.bind_some]
            unfold isN at hn
            by_cases a1 : mP t i = 3
            · rw [if_pos a1]
              by_cases a2 : mE t i = 1
              · exfalso; simp [a1, a2] at hn
              · rw [if_neg a2, if_neg (by omega)]
            · rw [if_neg a1]
              by_cases a3 : mP t i = 0
              · rw [if_pos a3]
                by_cases a4 : mE t i ≤ 3
                · exfalso; simp [a3] at hn; omega
                · rw [if_neg a4]
              · rw [if_neg a3]
theorem counted_ev (t : ByteArray) (hs : t.size ≤ 140737488351232) : Ev (fun k => cmap_counted.f k t) (countS t) := by
  have hs' : t.size ≤ 9223372036854775807 := by omega
  have hno : Ev (fun k => cmap_counted.j0 k t 0 false true) (0, false, false) := Ev.step (f := fun _ => some (0, false, false)) (fun k => by simp only [cmap_counted.j0, if_true]) (Ev.now _)
  unfold countS
  by_cases h : (t.size : Int) < 4
  · rw [if_pos h]
    refine Ev.congr (fun k => ?_) hno
    unfold cmap_counted.f; rw [if_pos h]
  · rw [if_neg h]
    by_cases h2 : tw t 0 = 0
    · rw [if_neg (fun hh => hh h2)]
      have b2 := tw_bd t 2
      refine Ev.congr (f := fun k => cmap_counted.j0 k t 0 false (decide ((t.size : Int) < 4 + 8 * tw t 2))) (fun k => ?_) ?_
      · unfold cmap_counted.f
        rw [if_neg h, two_f t 0 (by omega) (by omega) hs', two_f t 2 (by omega) (by omega) hs']
        simp only [Option.bind_some]
        rw [if_pos h2, wrap64_small (x := 8 * tw t 2) (by omega) (by omega), wrap64_small (x := 4 + 8 * tw t 2) (by omega) (by omega)]
      · by_cases h3 : (t.size : Int) < 4 + 8 * tw t 2
        · rw [if_pos h3, decide_eq_true h3]; exact hno
        · rw [if_neg h3, decide_eq_false h3]
          refine Ev.step (fun k => ?_) (counted_l0 t (tw t 2) hs (by omega) (by omega) (tw t 2).toNat 0 0 false (by omega) (by omega))
          simp only [cmap_counted.j0]
          rw [if_neg (by decide), two_f t 2 (by omega) (by omega) hs']
          rfl
    · rw [if_pos h2]
      refine Ev.congr (fun k => ?_) hno
      unfold cmap_counted.f
      rw [if_neg h, two_f t 0 (by omega) (by omega) hs']
      simp only [Option.bind_some]
      rw [if_neg h2]
/-- what is read in the end -/
def endS (t : ByteArray) (n : Int) (x : Int × Bool × Bool) : List S47 × Int :=
  if x.2.2 = false then ([], 110) else if (t.size : Int) - 4 < x.1 then ([], 110) else doneS (mapS t n x.1 x.2.1)
def readS (t : ByteArray) (n : Int) : List S47 × Int := if n < 1 then ([], 1) else if 4096 < n then ([], 1) else endS t n (countS t)
theorem mA_bd (t : ByteArray) (i : Int) : 0 ≤ mA t i ∧ mA t i ≤ 4294967295 := fo_bd t _
theorem countS_bd (t : ByteArray) : 0 ≤ (countS t).1 := by
  unfold countS
  split
  · exact Int.le_refl _
  · split
    · exact Int.le_refl _
    · split
      · exact Int.le_refl _
      · unfold countL
        split
        · exact (mA_bd t _).1
        · split
          · exact Int.le_refl _
          · split
            · exact (mA_bd t _).1
            · exact Int.le_refl _
theorem Read_ev (t : ByteArray) (n : Int) (hs : t.size ≤ 140737488351232) : Ev (fun k => cmap_Read.f k t n) (readS t n) := by
  unfold readS
  by_cases h : n < 1
  · rw [if_pos h]
    refine Ev.congr (fun k => ?_) (Ev.now _)
    unfold cmap_Read.f readF; rw [if_neg (by omega), if_pos h]
  · rw [if_neg h]
    by_cases h2 : 4096 < n
    · rw [if_pos h2]
      refine Ev.congr (fun k => ?_) (Ev.now _)
      unfold cmap_Read.f readF; rw [if_neg (by omega), if_neg h, if_pos h2]
    · rw [if_neg h2]
      refine Ev.congr (f := fun k => (cmap_counted.f k t).bind fun x => readOf t n x) (fun k => ?_) ?_
      · unfold cmap_Read.f readF; rw [if_neg (by omega), if_neg h, if_neg h2]
      · refine Ev.bind (counted_ev t hs) ?_
        have hb := countS_bd t
        have e : readOf t n (countS t) = some (endS t n (countS t)) := by
          unfold readOf endS
          split
          · rfl
          · split
            · rfl
            · rw [if_neg (by omega)]
        rw [e]; exact Ev.now _
theorem fW_succ (t : ByteArray) (r : Nat) (i : Int) : fW t (r + 1) i = if isW t i = true then i else fW t r (i + 1) := rfl
theorem fN_succ (t : ByteArray) (r : Nat) (i : Int) : fN t (r + 1) i = if isN t i = true then i else fN t r (i + 1) := rfl
theorem ref_end (t : ByteArray) (n a : Int) (wide : Bool) (F : Nat → Option (List S47 × Bool)) (ha : 0 ≤ a) (hF : a ≤ (t.size : Int) → Ev F (refOf (mapS t n a wide))) :
    Ev (fun k => if a ≤ (t.size : Int) then (if 0 ≤ a then (F k).bind fun bt => (if bt.2 = true then some (bt.1, 0) else some (([] : List S47), 110)) else none) else some ([], 110)) (endS t n (a, wide, true)) := by
  unfold endS
  rw [if_neg (show ¬ (a, wide, true).2.2 = false from Bool.noConfusion)]
  by_cases h : a ≤ (t.size : Int)
  · simp only [if_pos h, if_pos ha]
    refine Ev.bind (hF h) ?_
    by_cases h2 : (t.size : Int) - 4 < a
    · rw [if_pos h2]
      have hz : (t.extract a.toNat t.size).size < 8 := by rw [ByteArray.size_extract]; omega
      have hno : (mapS t n a wide).1 = false := by
        unfold mapS
        cases wide with
        | true => rw [if_pos rfl]; unfold groupsS; rw [if_pos (by omega)]
        | false => rw [if_neg (by decide)]; unfold segsS; rw [if_pos (by omega)]
      rw [refOf_no hno]
      exact Ev.now _
    · rw [if_neg h2]
      unfold refOf doneS
      split
      · exact Ev.now _
      · exact Ev.now _
  · simp only [if_neg h]
    rw [if_pos (show (t.size : Int) - 4 < (a, wide, true).1 from by simp only; omega)]
    exact Ev.now _
theorem ref_l0 (t : ByteArray) (n m : Int) (hn : n ≤ 4096) (hs : t.size ≤ 140737488351232) (hm : m ≤ 65535) (h2 : 4 + 8 * m ≤ (t.size : Int)) : ∀ (d r : Nat) (x : Int), x + 1 = d → (d + r : Nat) = m →
    Ev (fun k => colophonref11_Read.l0 k t n (fW t r d) (fN t r d) x) (endS t n (countL t (d + r) 0 0 false)) := by
  have hs' : t.size ≤ 9223372036854775807 := by omega
  intro d
  induction d with
  | zero =>
    intro r x hx hr
    rw [show (0 + r : Nat) = r from by omega]
    rw [show ((0 : Nat) : Int) = 0 from rfl]
    have bW := fW_bd t r 0
    have bN := fN_bd t r 0
    have hext : ∀ a : Int, (t.extract a.toNat t.size).size ≤ 140737488351232 := fun a => by have := extract_size t a.toNat; omega
    unfold countL
    by_cases c1 : 0 ≤ fW t r 0
    · rw [if_pos c1]
      obtain ⟨_, _, _, _, _, _, e⟩ := map_rows (t := t) (i := fW t r 0) (m := m) hs c1 (by omega) hm h2
      refine Ev.step (fun k => ?_) (ref_end t n (mA t (fW t r 0)) true (fun k => colophonref11_twelve.f k (t.extract (mA t (fW t r 0)).toNat t.size) n) (mA_bd t _).1 (fun _ => twelve_ev _ n (hext _) hn))
      rw [colophonref11_Read.l0, if_neg (by omega), if_pos (show fW t r 0 ≥ 0 from c1), e]
      rfl
    · rw [if_neg c1, if_neg (by decide)]
      by_cases c2 : 0 ≤ fN t r 0
      · rw [if_pos c2]
        obtain ⟨_, _, _, _, _, _, e⟩ := map_rows (t := t) (i := fN t r 0) (m := m) hs c2 (by omega) hm h2
        refine Ev.step (fun k => ?_) (ref_end t n (mA t (fN t r 0)) false (fun k => colophonref11_four.f k (t.extract (mA t (fN t r 0)).toNat t.size) n) (mA_bd t _).1 (fun _ => four_ev _ n (hext _)))
        rw [colophonref11_Read.l0, if_neg (by omega), if_neg (show ¬ fW t r 0 ≥ 0 from c1), if_pos (show fN t r 0 ≥ 0 from c2), e]
        rfl
      · rw [if_neg c2]
        refine Ev.step (f := fun _ => some ([], 110)) (fun k => ?_) (Ev.now _)
        rw [colophonref11_Read.l0, if_neg (by omega), if_neg (show ¬ fW t r 0 ≥ 0 from c1), if_neg (show ¬ fN t r 0 ≥ 0 from c2)]
  | succ d ih =>
    intro r x hx hr
    have hxd : x = (d : Int) := by omega
    obtain ⟨_, _, _, _, e1, e2, _⟩ := map_rows (t := t) (i := x) (m := m) hs (by omega) (by omega) hm h2
    have ex : wrap64 (x - 1) = x - 1 := wrap64_small (by omega) (by omega)
    have hnext := ih (r + 1) (x - 1) (by omega) (by omega)
    rw [show d + (r + 1) = d + 1 + r from by omega, fW_succ, fN_succ, ← hxd] at hnext
    rw [show ((d + 1 : Nat) : Int) = x + 1 from by omega]
    refine Ev.step (f := fun k => colophonref11_Read.j3 k t n (fW t r (x + 1)) (fN t r (x + 1)) x (mP t x) (mE t x) (isW t x)) (fun k => ?_) ?_
    · rw [colophonref11_Read.l0, if_pos (by omega), e1, e2]
      simp only [Option.bind_some]
      unfold isW
      by_cases a1 : mP t x = 3
      · rw [if_pos a1]
        by_cases a2 : mE t x = 10
        · rw [if_pos a2, beq_iff_eq.2 a1, beq_iff_eq.2 a2]; rfl
        · rw [if_neg a2, if_neg (by omega), beq_eq_false_iff_ne.2 a2, beq_eq_false_iff_ne.2 (show mP t x ≠ 0 by omega)]; simp
      · rw [if_neg a1, beq_eq_false_iff_ne.2 a1]
        by_cases a3 : mP t x = 0
        · rw [if_pos a3, beq_iff_eq.2 a3]; simp
        · rw [if_neg a3, beq_eq_false_iff_ne.2 a3]; simp
    · refine Ev.step (fun k => ?_) hnext
      simp only [colophonref11_Read.j3]
      rw [ex]
      have hN : isN t x = ((mP t x == 3 && mE t x == 1) || (mP t x == 0 && decide (mE t x ≤ 3))) := rfl
      rw [hN]
      cases isW t x with
      | true =>
        simp only [if_true]
        by_cases a1 : mP t x = 3
        · by_cases a2 : mE t x = 1
          · simp [a1, a2]
          · simp [a1, a2]
        · by_cases a3 : mP t x = 0
          · by_cases a4 : mE t x ≤ 3
            · simp [a3, a4]
            · simp [a3, a4]
          · simp [a1, a3]
      | false =>
        simp only [Bool.false_eq_true, if_false]
        by_cases a1 : mP t x = 3
        · by_cases a2 : mE t x = 1
          · simp [a1, a2]
          · simp [a1, a2]
        · by_cases a3 : mP t x = 0
          · by_cases a4 : mE t x ≤ 3
            · simp [a3, a4]
            · simp [a3, a4]
          · simp [a1, a3]
theorem refRead_ev (t : ByteArray) (n : Int) (hs : t.size ≤ 140737488351232) : Ev (fun k => colophonref11_Read.f k t n) (readS t n) := by
  have hs' : t.size ≤ 9223372036854775807 := by omega
  have hno : Ev (fun k => colophonref11_Read.j0 k t n true) ([], 1) := Ev.step (f := fun _ => some ([], 1)) (fun k => by simp only [colophonref11_Read.j0, if_true]) (Ev.now _)
  have hno2 : ∀ q : Int, Ev (fun k => colophonref11_Read.j1 k t n q true) ([], 110) := fun q => Ev.step (f := fun _ => some ([], 110)) (fun k => by simp only [colophonref11_Read.j1, if_true]) (Ev.now _)
  unfold readS
  by_cases h : n < 1
  · rw [if_pos h]
    refine Ev.congr (fun k => ?_) hno
    unfold colophonref11_Read.f; rw [if_pos h]
  · rw [if_neg h]
    refine Ev.congr (f := fun k => colophonref11_Read.j0 k t n (decide (n > 4096))) (fun k => by unfold colophonref11_Read.f; rw [if_neg h]) ?_
    by_cases h2 : 4096 < n
    · rw [if_pos h2, decide_eq_true (show n > 4096 from h2)]; exact hno
    · rw [if_neg h2, decide_eq_false (show ¬ n > 4096 from h2)]
      have b2 := u2_bd t 2
      have h110 : ∀ a b, endS t n (a, b, false) = ([], 110) := fun a b => by unfold endS; rw [if_pos rfl]
      unfold countS
      by_cases h3 : (t.size : Int) < 4
      · rw [if_pos h3, h110]
        refine Ev.step (fun k => ?_) (hno2 (u2 t 2))
        simp only [colophonref11_Read.j0]
        rw [if_neg (by decide), U2_f t 2 hs']
        simp only [Option.bind_some]
        rw [if_pos h3]
      · rw [if_neg h3]
        have e2 : u2 t 2 = tw t 2 := u2_in (by omega) (by omega)
        have t0 := tw_0 t 0 (by decide) 0 rfl (by omega)
        rw [e2] at b2
        by_cases h4 : tw t 0 = 0
        · rw [if_neg (fun hh => hh h4)]
          refine Ev.step (f := fun k => colophonref11_Read.j1 k t n (tw t 2) (decide ((t.size : Int) < 4 + 8 * tw t 2))) (fun k => ?_) ?_
          · simp only [colophonref11_Read.j0]
            rw [if_neg (by decide), U2_f t 2 hs', e2]
            simp only [Option.bind_some]
            rw [if_neg h3, if_pos (by omega), if_pos (by omega), if_pos (t0.1 h4), wrap64_small (x := 8 * tw t 2) (by omega) (by omega), wrap64_small (x := 4 + 8 * tw t 2) (by omega) (by omega)]
          · by_cases h5 : (t.size : Int) < 4 + 8 * tw t 2
            · rw [if_pos h5, decide_eq_true h5, h110]; exact hno2 _
            · rw [if_neg h5, decide_eq_false h5]
              have := ref_l0 t n (tw t 2) (by omega) hs (by omega) (by omega) (tw t 2).toNat 0 (tw t 2 - 1) (by omega) (by omega)
              refine Ev.step (fun k => ?_) this
              simp only [colophonref11_Read.j1]
              rw [if_neg (by decide), wrap64_small (x := tw t 2 - 1) (by omega) (by omega)]
              rfl
        · rw [if_pos h4, h110]
          refine Ev.step (fun k => ?_) (hno2 (tw t 2))
          simp only [colophonref11_Read.j0]
          rw [if_neg (by decide), U2_f t 2 hs', e2]
          simp only [Option.bind_some]
          rw [if_neg h3, if_pos (by omega), if_pos (by omega), if_neg (fun hh => h4 (t0.2 hh))]
theorem readS_len (t : ByteArray) (n : Int) : (readS t n).1.length ≤ 4096 := by
  unfold readS
  split
  · simp
  · split
    · simp
    · unfold endS
      split
      · simp
      · split
        · simp
        · unfold doneS
          split
          · rename_i h; exact h.2
          · simp

end Go.Proofs.Ytldcgkkbmnahiaa.Px
