/- What the readers of tables answer, in plain words: the parts that CmapBack needs. -/
import Derived.Test.YtldcgkkbmnahiaaTh
import Derived.Test.YtldcgkkbmnahiaaPxx4
import Derived.Test.YtldcgkkbmnahiaaPxx5
import Derived.Test.YtldcgkkbmnahiaaPxx7
import Derived.Test.YtldcgkkbmnahiaaPxx11
namespace Go.Proofs.Ytldcgkkbmnahiaa.Px
set_option linter.unusedSimpArgs false
set_option linter.unusedVariables false
open Go.RowKit Go.Proofs.YtldcgkkbmnahiaaW.PrintWords Go.Proofs.YtldcgkkbmnahiaaW.PrintLast Go.Proofs.YtldcgkkbmnahiaaW.PrintMore

/-- the reference's numbers: 0 past the end -/
def u2 (t : ByteArray) (i : Int) : Int := if i < 0 ∨ (t.size : Int) - 2 < i then 0 else tw t i
def u4 (t : ByteArray) (i : Int) : Int := u2 t i * 65536 + u2 t (i + 2)
theorem u2_in {t : ByteArray} {i : Int} (h0 : 0 ≤ i) (h1 : i + 2 ≤ t.size) : u2 t i = tw t i := if_neg (by omega)
theorem u4_in {t : ByteArray} {i : Int} (h0 : 0 ≤ i) (h1 : i + 4 ≤ t.size) : u4 t i = fo t i := by unfold u4 fo; rw [u2_in h0 (by omega), u2_in (by omega) (by omega)]
theorem u2_bd (t : ByteArray) (i : Int) : 0 ≤ u2 t i ∧ u2 t i ≤ 65535 := by
  unfold u2; split
  · omega
  · exact tw_bd t i
theorem U2_f (t : ByteArray) (i : Int) (hs : t.size ≤ 9223372036854775807) : colophonref08_U2.f t i = some (u2 t i) := by
  unfold colophonref08_U2.f u2
  rw [wrap64_small (x := (t.size : Int) - 2) (by omega) (by omega)]
  by_cases h : i < 0
  · rw [if_pos h, if_pos (.inl h)]
  · rw [if_neg h]
    by_cases h2 : (t.size : Int) - 2 < i
    · rw [if_pos h2, if_pos (.inr h2)]
    · rw [if_neg h2, if_neg (show ¬ (i < 0 ∨ (t.size : Int) - 2 < i) from by omega)]
      have := two_f t i (by omega) (by omega) hs
      unfold cmap_two.f at this
      exact this
theorem U4_f (t : ByteArray) (i : Int) (hs : t.size ≤ 9223372036854775807) (h1 : -9223372036854775808 ≤ i) (h2 : i ≤ 9223372036854775805) : colophonref08_U4.f t i = some (u4 t i) := by
  unfold colophonref08_U4.f
  have b0 := u2_bd t i
  have b1 := u2_bd t (i + 2)
  rw [U2_f t i hs]
  simp only [Option.bind_some]
  rw [wrap64_small (x := i + 2) (by omega) (by omega), U2_f t _ hs]
  simp only [Option.bind_some]
  rw [wrap64_small (x := u2 t i * 65536) (by omega) (by omega), i64_or 16 _ _ (by decide) (by omega) (by omega) (by omega) (by omega) (by omega)]
  rfl
theorem takeRun_head (xs : List S47) (c g : Int) : ∀ m, takeRun xs c g (m + 1) = takeRun (takeS xs c g) (c + 1) (g + 1) m := by
  intro m
  induction m with
  | zero => simp only [takeRun]; simp
  | succ m ih =>
    rw [takeRun, ih]
    simp only [takeRun]
    congr 1 <;> omega
/-- what the groups' rows put together -/
def groupsRun (t : ByteArray) : Nat → Int → List S47 → List S47
  | 0, _, xs => xs
  | r + 1, i, xs => groupsRun t r (i + 1) (takeRun xs (gA t i) (gG t i) (gB t i - gA t i + 1).toNat)
/-- the rows are good -/
def rowsOk (t : ByteArray) (n : Int) : Nat → Int → Int → Prop
  | 0, _, _ => True
  | r + 1, i, last => ¬ (gB t i < gA t i ∨ gA t i ≤ last ∨ 1114111 < gB t i ∨ n ≤ gG t i + gB t i - gA t i) ∧ rowsOk t n r (i + 1) (gB t i)
theorem groupsL_ok {t : ByteArray} {n : Int} : ∀ (r : Nat) (i last : Int) (xs : List S47), rowsOk t n r i last → groupsL t n r i last xs = (true, groupsRun t r i xs) := by
  intro r
  induction r with
  | zero => intro i last xs _; rfl
  | succ r ih =>
    intro i last xs h
    rw [groupsL_good h.1, ih _ _ _ h.2]; rfl
/-- the segments rise, and the last one ends the table -/
def rowsS (t : ByteArray) (m : Int) : Nat → Int → Int → Prop
  | 0, _, before => before = 65535
  | r + 1, i, before => ¬ (sF t m i ≤ before ∨ sL t i < sF t m i) ∧ rowsS t m r (i + 2) (sL t i)
def runsS (t : ByteArray) (n d m : Int) : Nat → Int → List S47 → Option (List S47)
  | 0, _, xs => some xs
  | r + 1, i, xs => if (segRun t n d (sF t m i) (sD t m i) (sP m i) (sO t m i) (segE (sL t i) - sF t m i).toNat (sF t m i) xs).1 = true then runsS t n d m r (i + 2) (segRun t n d (sF t m i) (sD t m i) (sP m i) (sO t m i) (segE (sL t i) - sF t m i).toNat (sF t m i) xs).2 else none
theorem segsL_ok {t : ByteArray} {n d m : Int} : ∀ (r : Nat) (i before : Int) (xs zs : List S47), rowsS t m r i before → runsS t n d m r i xs = some zs → segsL t n d m r i before xs = (true, zs) := by
  intro r
  induction r with
  | zero => intro i before xs zs h h2; simp only [rowsS] at h; simp only [runsS, Option.some.injEq] at h2; subst h2; simp only [segsL]; rw [beq_iff_eq.2 h]
  | succ r ih =>
    intro i before xs zs h h2
    simp only [runsS] at h2
    split at h2
    · rename_i hp
      simp only [segsL]; rw [if_neg h.1, if_pos hp]; exact ih _ _ _ _ h.2 h2
    · exact absurd h2 (by simp)
/-- a row of the table of maps -/
def mP (t : ByteArray) (i : Int) : Int := tw t (4 + 8 * i)
def mE (t : ByteArray) (i : Int) : Int := tw t (6 + 8 * i)
def mA (t : ByteArray) (i : Int) : Int := fo t (8 + 8 * i)
def isW (t : ByteArray) (i : Int) : Bool := (mP t i == 3 && mE t i == 10) || (mP t i == 0 && mE t i == 4)
def isN (t : ByteArray) (i : Int) : Bool := (mP t i == 3 && mE t i == 1) || (mP t i == 0 && decide (mE t i ≤ 3))
/-- the first wide one, the first narrow one; -1: none -/
def fW (t : ByteArray) : Nat → Int → Int
  | 0, _ => -1
  | r + 1, i => if isW t i = true then i else fW t r (i + 1)
def fN (t : ByteArray) : Nat → Int → Int
  | 0, _ => -1
  | r + 1, i => if isN t i = true then i else fN t r (i + 1)
def countL (t : ByteArray) (r : Nat) (i at_ : Int) (ok : Bool) : Int × Bool × Bool :=
  if 0 ≤ fW t r i then (mA t (fW t r i), true, true)
  else if ok = true then (at_, false, true)
  else if 0 ≤ fN t r i then (mA t (fN t r i), false, true)
  else (at_, false, false)
def countS (t : ByteArray) : Int × Bool × Bool :=
  if (t.size : Int) < 4 then (0, false, false)
  else if tw t 0 ≠ 0 then (0, false, false)
  else if (t.size : Int) < 4 + 8 * tw t 2 then (0, false, false)
  else countL t (tw t 2).toNat 0 0 false
theorem countL_W {t : ByteArray} {r : Nat} {i at_ : Int} {ok : Bool} (h0 : 0 ≤ i) (h : isW t i = true) : countL t (r + 1) i at_ ok = (mA t i, true, true) := by
  unfold countL
  have e : fW t (r + 1) i = i := by simp only [fW]; rw [if_pos h]
  rw [e, if_pos h0]
theorem countL_N {t : ByteArray} {r : Nat} {i at_ : Int} (h0 : 0 ≤ i) (h : isW t i = false) (h2 : isN t i = true) : countL t (r + 1) i at_ false = countL t r (i + 1) (mA t i) true := by
  unfold countL
  have e : fW t (r + 1) i = fW t r (i + 1) := by simp only [fW]; rw [if_neg (by simp [h])]
  have e2 : fN t (r + 1) i = i := by simp only [fN]; rw [if_pos h2]
  rw [e, e2]
  split
  · rfl
  · simp [h0]
theorem countL_ok {t : ByteArray} {r : Nat} {i at_ : Int} (h : isW t i = false) : countL t (r + 1) i at_ true = countL t r (i + 1) at_ true := by
  unfold countL
  have e : fW t (r + 1) i = fW t r (i + 1) := by simp only [fW]; rw [if_neg (by simp [h])]
  rw [e]
  split
  · rfl
  · rw [if_pos rfl, if_pos rfl]
theorem countL_no {t : ByteArray} {r : Nat} {i at_ : Int} (h : isW t i = false) (h2 : isN t i = false) : countL t (r + 1) i at_ false = countL t r (i + 1) at_ false := by
  unfold countL
  have e : fW t (r + 1) i = fW t r (i + 1) := by simp only [fW]; rw [if_neg (by simp [h])]
  have e2 : fN t (r + 1) i = fN t r (i + 1) := by simp only [fN]; rw [if_neg (by simp [h2])]
  rw [e, e2]
theorem map_rows {t : ByteArray} {i m : Int} (hs : t.size ≤ 140737488351232) (h0 : 0 ≤ i) (h1 : i < m) (hm : m ≤ 65535) (h2 : 4 + 8 * m ≤ (t.size : Int)) :
    wrap64 (4 + (wrap64 (8 * i))) = 4 + 8 * i ∧ cmap_two.f t (4 + 8 * i) = some (mP t i) ∧ cmap_two.f t (wrap64 (4 + 8 * i + 2)) = some (mE t i) ∧ cmap_four.f t (wrap64 (4 + 8 * i + 4)) = some (mA t i) ∧
    colophonref08_U2.f t (wrap64 (4 + (wrap64 (8 * i)))) = some (mP t i) ∧ colophonref08_U2.f t (wrap64 (6 + (wrap64 (8 * i)))) = some (mE t i) ∧ colophonref08_U4.f t (wrap64 (8 + (wrap64 (8 * i)))) = some (mA t i) := by
  have hs' : t.size ≤ 9223372036854775807 := by omega
  unfold mP mE mA
  rw [wrap64_small (x := 8 * i) (by omega) (by omega), wrap64_small (x := 4 + 8 * i) (by omega) (by omega), wrap64_small (x := 4 + 8 * i + 2) (by omega) (by omega), wrap64_small (x := 4 + 8 * i + 4) (by omega) (by omega), wrap64_small (x := 6 + 8 * i) (by omega) (by omega), wrap64_small (x := 8 + 8 * i) (by omega) (by omega)]
  rw [show (4 : Int) + 8 * i + 2 = 6 + 8 * i from by omega, show (4 : Int) + 8 * i + 4 = 8 + 8 * i from by omega]
  rw [two_f t _ (by omega) (by omega) hs', two_f t _ (by omega) (by omega) hs', four_f t _ (by omega) (by omega) hs', U2_f t _ hs', U2_f t _ hs', U4_f t _ hs' (by omega) (by omega), u2_in (by omega) (by omega), u2_in (by omega) (by omega), u4_in (by omega) (by omega)]
  exact ⟨rfl, rfl, rfl, rfl, rfl, rfl, rfl⟩
theorem counted_l0 (t : ByteArray) (m : Int) (hs : t.size ≤ 140737488351232) (hm : m ≤ 65535) (h2 : 4 + 8 * m ≤ (t.size : Int)) : ∀ (r : Nat) (i at_ : Int) (ok : Bool), 0 ≤ i → i + r = m →
    Ev (fun k => cmap_counted.l0 k t at_ ok m i) (countL t r i at_ ok) := by
  intro r
  induction r with
  | zero =>
    intro i at_ ok h0 h1
    have e : countL t 0 i at_ ok = (at_, false, ok) := by unfold countL; simp only [fW, fN]; cases ok <;> rfl
    rw [e]
    refine Ev.step (f := fun _ => some (at_, false, ok)) (fun k => ?_) (Ev.now _)
    rw [cmap_counted.l0, if_neg (by omega)]
  | succ r ih =>
    intro i at_ ok h0 h1
    obtain ⟨e0, e1, e2, e3, _, _, _⟩ := map_rows (t := t) (i := i) (m := m) hs h0 (by omega) hm h2
    have ei : wrap64 (i + 1) = i + 1 := wrap64_small (by omega) (by omega)
    refine Ev.step (f := fun k => cmap_counted.j2 k t at_ ok (4 + 8 * i) (mP t i) (mE t i) m i (isW t i)) (fun k => ?_) ?_
    · rw [cmap_counted.l0, if_pos (by omega), e0, e1, e2]
      simp only [Option.bind_some]
      unfold isW
      by_cases a1 : mP t i = 3
      · rw [if_pos a1]
        by_cases a2 : mE t i = 10
        · rw [if_pos a2, beq_iff_eq.2 a1, beq_iff_eq.2 a2]; rfl
        · rw [if_neg a2, if_neg (by omega), beq_eq_false_iff_ne.2 a2, beq_eq_false_iff_ne.2 (show mP t i ≠ 0 by omega)]; simp
      · rw [if_neg a1, beq_eq_false_iff_ne.2 a1]
        by_cases a3 : mP t i = 0
        · rw [if_pos a3, beq_iff_eq.2 a3]; simp
        · rw [if_neg a3, beq_eq_false_iff_ne.2 a3]; simp
    · cases hw : isW t i with
      | true =>
        rw [countL_W h0 hw]
        refine Ev.step (f := fun _ => some (mA t i, true, true)) (fun k => ?_) (Ev.now _)
        simp only [cmap_counted.j2]
        rw [if_pos trivial, e3]; rfl
      | false =>
        cases ok with
        | true =>
          rw [countL_ok hw]
          refine Ev.step (fun k => ?_) (ih (i + 1) at_ true (by omega) (by omega))
          simp only [cmap_counted.j2]
          rw [if_neg (by decide), if_pos trivial, ei]
        | false =>
          cases hn : isN t i with
          | true =>
            rw [countL_N h0 hw hn]
            refine Ev.step (fun k => ?_) (ih (i + 1) (mA t i) true (by omega) (by omega))
            simp only [cmap_counted.j2]
            rw [if_neg (by decide), if_neg (by decide), e3, ei]
            simp only [Option.bind_some]
            unfold isN at hn
            by_cases a1 : mP t i = 3
            · rw [if_pos a1]
              by_cases a2 : mE t i = 1
              · rw [if_pos a2]
              · exfalso; simp [a1, a2] at hn
            · rw [if_neg a1]
              by_cases a3 : mP t i = 0
              · rw [if_pos a3]
                by_cases a4 : mE t i ≤ 3
                · rw [if_pos a4]
                · exfalso; simp [a3, a4] at hn
              · exfalso; simp [a1, a3] at hn
          | false =>
            rw [countL_no hw hn]
            refine Ev.step (fun k => ?_) (ih (i + 1) at_ false (by omega) (by omega))
            simp only [cmap_counted.j2]
            rw [if_neg (by decide), if_neg (by decide), e3, ei]
            simp only [Option.bind_some]
            unfold isN at hn
            by_cases a1 : mP t i = 3
            · rw [if_pos a1]
              by_cases a2 : mE t i = 1
              · exfalso; simp [a1, a2] at hn
              · rw [if_neg a2, if_neg (by omega)]
            · rw [if_neg a1]
              by_cases a3 : mP t i = 0
              · rw [if_pos a3]
                by_cases a4 : mE t i ≤ 3
                · exfalso; simp [a3] at hn; omega
                · rw [if_neg a4]
              · rw [if_neg a3]
theorem counted_ev (t : ByteArray) (hs : t.size ≤ 140737488351232) : Ev (fun k => cmap_counted.f k t) (countS t) := by
  have hs' : t.size ≤ 9223372036854775807 := by omega
  have hno : Ev (fun k => cmap_counted.j0 k t 0 false true) (0, false, false) := Ev.step (f := fun _ => some (0, false, false)) (fun k => by simp only [cmap_counted.j0, if_true]) (Ev.now _)
  unfold countS
  by_cases h : (t.size : Int) < 4
  · rw [if_pos h]
    refine Ev.congr (fun k => ?_) hno
    unfold cmap_counted.f; rw [if_pos h]
  · rw [if_neg h]
    by_cases h2 : tw t 0 = 0
    · rw [if_neg (fun hh => hh h2)]
      have b2 := tw_bd t 2
      refine Ev.congr (f := fun k => cmap_counted.j0 k t 0 false (decide ((t.size : Int) < 4 + 8 * tw t 2))) (fun k => ?_) ?_
      · unfold cmap_counted.f
        rw [if_neg h, two_f t 0 (by omega) (by omega) hs', two_f t 2 (by omega) (by omega) hs']
        simp only [Option.bind_some]
        rw [if_pos h2, wrap64_small (x := 8 * tw t 2) (by omega) (by omega), wrap64_small (x := 4 + 8 * tw t 2) (by omega) (by omega)]
      · by_cases h3 : (t.size : Int) < 4 + 8 * tw t 2
        · rw [if_pos h3, decide_eq_true h3]; exact hno
        · rw [if_neg h3, decide_eq_false h3]
          refine Ev.step (fun k => ?_) (counted_l0 t (tw t 2) hs (by omega) (by omega) (tw t 2).toNat 0 0 false (by omega) (by omega))
          simp only [cmap_counted.j0]
          rw [if_neg (by decide), two_f t 2 (by omega) (by omega) hs']
          rfl
    · rw [if_pos h2]
      refine Ev.congr (fun k => ?_) hno
      unfold cmap_counted.f
      rw [if_neg h, two_f t 0 (by omega) (by omega) hs']
      simp only [Option.bind_some]
      rw [if_neg h2]
/-- what is read in the end -/
def endS (t : ByteArray) (n : Int) (x : Int × Bool × Bool) : List S47 × Int :=
  if x.2.2 = false then ([], 110) else if (t.size : Int) - 4 < x.1 then ([], 110) else doneS (mapS t n x.1 x.2.1)
def readS (t : ByteArray) (n : Int) : List S47 × Int := if n < 1 then ([], 1) else if 4096 < n then ([], 1) else endS t n (countS t)
theorem mA_bd (t : ByteArray) (i : Int) : 0 ≤ mA t i ∧ mA t i ≤ 4294967295 := fo_bd t _
theorem countS_bd (t : ByteArray) : 0 ≤ (countS t).1 := by
  unfold countS
  split
  · exact Int.le_refl _
  · split
    · exact Int.le_refl _
    · split
      · exact Int.le_refl _
      · unfold countL
        split
        · exact (mA_bd t _).1
        · split
          · exact Int.le_refl _
          · split
            · exact (mA_bd t _).1
            · exact Int.le_refl _
theorem Read_ev (t : ByteArray) (n : Int) (hs : t.size ≤ 140737488351232) : Ev (fun k => cmap_Read.f k t n) (readS t n) := by
  unfold readS
  by_cases h : n < 1
  · rw [if_pos h]
    refine Ev.congr (fun k => ?_) (Ev.now _)
    unfold cmap_Read.f readF; rw [if_neg (by omega), if_pos h]
  · rw [if_neg h]
    by_cases h2 : 4096 < n
    · rw [if_pos h2]
      refine Ev.congr (fun k => ?_) (Ev.now _)
      unfold cmap_Read.f readF; rw [if_neg (by omega), if_neg h, if_pos h2]
    · rw [if_neg h2]
      refine Ev.congr (f := fun k => (cmap_counted.f k t).bind fun x => readOf t n x) (fun k => ?_) ?_
      · unfold cmap_Read.f readF; rw [if_neg (by omega), if_neg h, if_neg h2]
      · refine Ev.bind (counted_ev t hs) ?_
        have hb := countS_bd t
        have e : readOf t n (countS t) = some (endS t n (countS t)) := by
          unfold readOf endS
          split
          · rfl
          · split
            · rfl
            · rw [if_neg (by omega)]
        rw [e]; exact Ev.now _
/-- a list is good -/
def gBad1 (x : S47) : Bool := decide (x.f0 < 0) || (decide (x.f1 < x.f0) || (decide (1114111 < x.f1) || (decide (x.f0 ≤ 57343) && decide (55296 ≤ x.f1))))
def gBad2 (x : S47) (n : Int) : Bool := decide (x.f2 < 1) || (decide (n ≤ x.f2) || decide (wrap64 (n - x.f2) ≤ wrap64 (x.f1 - x.f0)))
def pBad (y x : S47) : Bool := decide (x.f0 ≤ y.f1) || ((x.f0 == wrap64 (y.f1 + 1)) && (x.f2 == wrap64 (wrap64 (wrap64 (y.f2 + y.f1) - y.f0) + 1)))
def goodL (l : List S47) (n : Int) : Nat → Int → Bool
  | 0, _ => true
  | r + 1, i => if gBad1 (rd_T47 l i) = true then false else if gBad2 (rd_T47 l i) n = true then false else if 0 < i ∧ pBad (rd_T47 l (i - 1)) (rd_T47 l i) = true then false else goodL l n r (i + 1)
def goodS (l : List S47) (n : Int) : Bool := if 4096 < l.length then false else goodL l n l.length 0
theorem Good_l0 (l : List S47) (n : Int) (hl : l.length ≤ 100000) : ∀ (r : Nat) (i : Int), 0 ≤ i → i + r = l.length → Ev (fun k => cmap_Good.l0 k l n l (l.length : Int) i) (goodL l n r i) := by
  intro r
  induction r with
  | zero =>
    intro i h0 h1
    refine Ev.step (f := fun _ => some true) (fun k => ?_) (Ev.now _)
    rw [cmap_Good.l0, if_neg (by omega)]
  | succ r ih =>
    intro i h0 h1
    have hn := ih (i + 1) (by omega) (by omega)
    have ei : wrap64 (i + 1) = i + 1 := wrap64_small (by omega) (by omega)
    have ej : wrap64 (i - 1) = i - 1 := wrap64_small (by omega) (by omega)
    simp only [goodL]
    generalize hX : rd_T47 l i = X at *
    refine Ev.step (f := fun k => cmap_Good.j1 k l n i l (l.length : Int) i (gBad1 X) X.f0 X.f1 X.f2) (fun k => ?_) ?_
    · rw [cmap_Good.l0, if_pos (by omega), if_pos h0, if_pos (by omega), hX]
      unfold gBad1
      by_cases a1 : X.f0 < 0
      · rw [if_pos a1, decide_eq_true a1]; rfl
      · rw [if_neg a1, decide_eq_false a1]
        by_cases a2 : X.f1 < X.f0
        · rw [if_pos (show X.f0 > X.f1 from a2), decide_eq_true a2]; rfl
        · rw [if_neg (show ¬ X.f0 > X.f1 from a2), decide_eq_false a2]
          by_cases a3 : 1114111 < X.f1
          · rw [if_pos (show X.f1 > 1114111 from a3), decide_eq_true a3]; rfl
          · rw [if_neg (show ¬ X.f1 > 1114111 from a3), decide_eq_false a3]
            by_cases a4 : X.f0 ≤ 57343
            · rw [if_pos a4, decide_eq_true a4]; rfl
            · rw [if_neg a4, decide_eq_false a4]; rfl
    · cases hb : gBad1 X with
      | true =>
        rw [if_pos rfl]
        exact Ev.step (f := fun _ => some false) (fun k => by simp only [cmap_Good.j1, if_true]) (Ev.now _)
      | false =>
        rw [if_neg (by decide)]
        refine Ev.step (f := fun k => cmap_Good.j2 k l n i l (l.length : Int) i (gBad2 X n) X.f0 X.f1 X.f2) (fun k => ?_) ?_
        · simp only [cmap_Good.j1]
          rw [if_neg (by decide)]
          unfold gBad2
          by_cases a1 : X.f2 < 1
          · rw [if_pos a1, decide_eq_true a1]; rfl
          · rw [if_neg a1, decide_eq_false a1]
            by_cases a2 : n ≤ X.f2
            · rw [if_pos (show X.f2 ≥ n from a2), decide_eq_true a2]; rfl
            · rw [if_neg (show ¬ X.f2 ≥ n from a2), decide_eq_false a2]; rfl
        · cases hb2 : gBad2 X n with
          | true =>
            rw [if_pos rfl]
            exact Ev.step (f := fun _ => some false) (fun k => by simp only [cmap_Good.j2, if_true]) (Ev.now _)
          | false =>
            rw [if_neg (by decide)]
            by_cases hi : 0 < i
            · generalize hY : rd_T47 l (i - 1) = Y at *
              cases hp : pBad Y X with
              | true =>
                rw [if_pos ⟨hi, rfl⟩]
                refine Ev.step (f := fun _ => some false) (fun k => ?_) (Ev.now _)
                simp only [cmap_Good.j2]
                rw [if_neg (by decide), if_neg (by omega), ej, if_pos (by omega), if_pos (by omega), hY]
                unfold pBad at hp
                by_cases a1 : X.f0 ≤ Y.f1
                · rw [if_pos a1]
                · rw [if_neg a1]
                  rw [decide_eq_false a1, Bool.false_or, Bool.and_eq_true, beq_iff_eq, beq_iff_eq] at hp
                  rw [if_pos hp.1, if_pos hp.2]
              | false =>
                rw [if_neg (fun hh => by simpa using hh.2)]
                refine Ev.step (fun k => ?_) hn
                simp only [cmap_Good.j2]
                rw [if_neg (by decide), if_neg (by omega), ej, if_pos (by omega), if_pos (by omega), hY, ei]
                unfold pBad at hp
                rw [Bool.or_eq_false_iff] at hp
                rw [if_neg (of_decide_eq_false hp.1)]
                by_cases a2 : X.f0 = wrap64 (Y.f1 + 1)
                · rw [if_pos a2]
                  have hp2 := hp.2
                  rw [beq_iff_eq.2 a2, Bool.true_and, beq_eq_false_iff_ne] at hp2
                  rw [if_neg hp2]
                · rw [if_neg a2]
            · rw [if_neg (fun hh => hi hh.1)]
              refine Ev.step (fun k => ?_) hn
              simp only [cmap_Good.j2]
              rw [if_neg (by decide), if_pos (by omega), ei]
theorem Good_ev (l : List S47) (n : Int) (hl : l.length ≤ 100000) : Ev (fun k => cmap_Good.f k l n) (goodS l n) := by
  unfold goodS
  by_cases h : 4096 < l.length
  · rw [if_pos h]
    exact Ev.congr (fun k => by unfold cmap_Good.f; rw [if_pos (by omega)]) (Ev.now _)
  · rw [if_neg h]
    exact Ev.congr (fun k => by unfold cmap_Good.f; rw [if_neg (by omega)]) (Good_l0 l n hl l.length 0 (by omega) (by omega))
theorem same_l0 (l : List S47) (hl : l.length ≤ 1000000) : ∀ (d : Nat) (i : Int), 0 ≤ i → i + d = l.length → Ev (fun k => colophonlaw11_same.l0 k l l i) true := by
  intro d
  induction d with
  | zero =>
    intro i h0 h1
    refine Ev.step (f := fun _ => some true) (fun k => ?_) (Ev.now _)
    rw [colophonlaw11_same.l0, if_neg (by omega)]
  | succ d ih =>
    intro i h0 h1
    refine Ev.step (fun k => ?_) (ih (i + 1) (by omega) (by omega))
    rw [colophonlaw11_same.l0, if_pos (by omega), if_pos h0, if_pos (by omega), if_neg (by simp), wrap64_small (by omega) (by omega)]
theorem same_ev (l : List S47) (hl : l.length ≤ 1000000) : Ev (fun k => colophonlaw11_same.f k l l) true := by
  refine Ev.congr (fun k => ?_) (same_l0 l hl l.length 0 (by omega) (by omega))
  unfold colophonlaw11_same.f; rw [if_pos rfl]
set_option maxRecDepth 100000 in
theorem wakes_60 : colophonlaw11_wakes.f 60 = some true := by decide +kernel
theorem wakes_ev : Ev (fun k => colophonlaw11_wakes.f k) true := Ev.of (fun k => colophonlaw11_wakes.mono k) wakes_60


end Go.Proofs.Ytldcgkkbmnahiaa.Px
