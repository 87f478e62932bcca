/- the reference's table of segments -/
import Derived.Test.YtldcgkkbmnahiaaQb
import Derived.Test.YtldcgkkbmnahiaaPxx9
namespace Go.Proofs.Ytldcgkkbmnahiaa.Px
set_option linter.unusedSimpArgs false
set_option linter.unusedVariables false
open Go.RowKit Go.Proofs.YtldcgkkbmnahiaaW.PrintWords Go.Proofs.YtldcgkkbmnahiaaW.PrintLast Go.Proofs.YtldcgkkbmnahiaaW.PrintMore

theorem cut_size (t : ByteArray) (n : Nat) (h : n ≤ t.size) : (t.extract 0 n).size = n := by rw [ByteArray.size_extract]; omega
theorem cut_bt (t : ByteArray) (n : Nat) (i : Int) (h : n ≤ t.size) (h0 : 0 ≤ i) (h1 : i < n) : bt (t.extract 0 n) i = bt t i := by
  unfold bt
  have e := cut_size t n h
  rw [dif_pos (by omega), dif_pos (by omega)]
  congr 1
  simp [ByteArray.getElem_extract]
theorem cut_tw (t : ByteArray) (n : Nat) (i : Int) (h : n ≤ t.size) (h0 : 0 ≤ i) (h1 : i + 2 ≤ n) : tw (t.extract 0 n) i = tw t i := by
  unfold tw; rw [cut_bt t n i h h0 (by omega), cut_bt t n (i + 1) h (by omega) (by omega)]
theorem cut_U2 (t : ByteArray) (n : Nat) (i : Int) (hs : t.size ≤ 140737488351232) (h : n ≤ t.size) (h0 : 0 ≤ i) (h1 : i + 2 ≤ n) : colophonref08_U2.f (t.extract 0 n) i = some (tw t i) := by
  have e := cut_size t n h
  rw [U2_f _ _ (by omega), u2_in h0 (by omega), cut_tw t n i h h0 h1]
/-- the segments rise, and the last one ends the table -/
def rowsS (t : ByteArray) (m : Int) : Nat → Int → Int → Prop
  | 0, _, before => before = 65535
  | r + 1, i, before => ¬ (sF t m i ≤ before ∨ sL t i < sF t m i) ∧ rowsS t m r (i + 2) (sL t i)
def runsS (t : ByteArray) (n d m : Int) : Nat → Int → List S47 → Option (List S47)
  | 0, _, xs => some xs
  | r + 1, i, xs => if (segRun t n d (sF t m i) (sD t m i) (sP m i) (sO t m i) (segE (sL t i) - sF t m i).toNat (sF t m i) xs).1 = true then runsS t n d m r (i + 2) (segRun t n d (sF t m i) (sD t m i) (sP m i) (sO t m i) (segE (sL t i) - sF t m i).toNat (sF t m i) xs).2 else none
theorem segsL_ok {t : ByteArray} {n d m : Int} : ∀ (r : Nat) (i before : Int) (xs zs : List S47), rowsS t m r i before → runsS t n d m r i xs = some zs → segsL t n d m r i before xs = (true, zs) := by
  intro r
  induction r with
  | zero => intro i before xs zs h h2; simp only [rowsS] at h; simp only [runsS, Option.some.injEq] at h2; subst h2; simp only [segsL]; rw [beq_iff_eq.2 h]
  | succ r ih =>
    intro i before xs zs h h2
    simp only [runsS] at h2
    split at h2
    · rename_i hp
      simp only [segsL]; rw [if_neg h.1, if_pos hp]; exact ih _ _ _ _ h.2 h2
    · exact absurd h2 (by simp)
theorem segsL_no1 {t : ByteArray} {n d m : Int} : ∀ (r : Nat) (i before : Int) (xs : List S47), ¬ rowsS t m r i before → (segsL t n d m r i before xs).1 = false := by
  intro r
  induction r with
  | zero => intro i before xs h; simp only [rowsS] at h; simp only [segsL]; exact beq_eq_false_iff_ne.2 h
  | succ r ih =>
    intro i before xs h
    simp only [segsL]
    split
    · rfl
    · rename_i hb
      split
      · exact ih _ _ _ (fun hh => h ⟨hb, hh⟩)
      · rfl
theorem segsL_no2 {t : ByteArray} {n d m : Int} : ∀ (r : Nat) (i before : Int) (xs : List S47), runsS t n d m r i xs = none → (segsL t n d m r i before xs).1 = false := by
  intro r
  induction r with
  | zero => intro i before xs h; simp [runsS] at h
  | succ r ih =>
    intro i before xs h
    simp only [segsL]
    split
    · rfl
    · split
      · rename_i hp
        simp only [runsS] at h
        rw [if_pos hp] at h
        exact ih _ _ _ h
      · rfl
theorem segRun_grow (t : ByteArray) (n d fr dl pl off : Int) : ∀ (k : Nat) (c : Int) (xs : List S47), xs.length ≤ (segRun t n d fr dl pl off k c xs).2.length := by
  intro k
  induction k with
  | zero => intro c xs; simp [segRun]
  | succ k ih =>
    intro c xs
    simp only [segRun]
    split
    · exact ih (c + 1) xs
    · split
      · simp
      · split
        · simp
        · rename_i g _ _; have := ih (c + 1) (takeS xs c g); have := takeS_grow xs c g; omega
theorem runsS_grow (t : ByteArray) (n d m : Int) : ∀ (r : Nat) (i : Int) (xs zs : List S47), runsS t n d m r i xs = some zs → xs.length ≤ zs.length := by
  intro r
  induction r with
  | zero => intro i xs zs h; simp only [runsS, Option.some.injEq] at h; subst h; omega
  | succ r ih =>
    intro i xs zs h
    simp only [runsS] at h
    split at h
    · have := ih _ _ _ h
      have := segRun_grow t n d (sF t m i) (sD t m i) (sP m i) (sO t m i) (segE (sL t i) - sF t m i).toNat (sF t m i) xs
      omega
    · exact absurd h (by simp)
theorem segG_bd {t : ByteArray} {d fr dl pl off c g : Int} (h : segG t d fr dl pl off c = some g) : 0 ≤ g ∧ g ≤ 65535 := by
  unfold segG at h
  split at h
  · simp only [Option.some.injEq] at h; omega
  · split at h
    · exact absurd h (by simp)
    · split at h
      · exact absurd h (by simp)
      · split at h
        · simp only [Option.some.injEq] at h; omega
        · simp only [Option.some.injEq] at h; omega
/-- what follows a code that is shown -/
def fourTail (k : Nat) (t' : ByteArray) (n q : Int) (xs : List S47) (x l fr dl pl off c g : Int) : Option (List S47 × Bool) :=
  (colophonref11_add.f k xs c g).bind fun bt => if g ≥ n then some ([], false) else if bt.2 = true then colophonref11_four.l2 k t' n q bt.1 x l fr dl pl off (wrap64 (c + 1)) else some ([], false)
theorem four_j4 (t : ByteArray) (n q d : Int) (xs : List S47) (x l fr dl pl off c : Int) (R : List S47 × Bool) (hs : t.size ≤ 140737488351232) (hd : 0 ≤ d) (hd2 : d ≤ (t.size : Int))
    (hc : 0 ≤ c) (hc1 : c ≤ 65534) (hf : 0 ≤ fr) (hf1 : fr ≤ c) (hdl : 0 ≤ dl ∧ dl ≤ 65535) (hpl : 0 ≤ pl ∧ pl ≤ 1000000) (hoff : 0 ≤ off ∧ off ≤ 65535)
    (hnone : segG t d fr dl pl off c = none → R = ([], false)) (hsome : ∀ g, segG t d fr dl pl off c = some g → Ev (fun k => fourTail k (t.extract 0 d.toNat) n q xs x l fr dl pl off c g) R) :
    Ev (fun k => colophonref11_four.j4 k (t.extract 0 d.toNat) n q xs x l fr dl pl off c false) R := by
  have hsz : (t.extract 0 d.toNat).size = d.toNat := cut_size t _ (by omega)
  have em : ∀ y : Int, 0 ≤ y → y ≤ 65535 → Int.tmod (wrap64 (y + dl)) 65536 = (y + dl) % 65536 := fun y h0 h1 => by
    rw [wrap64_small (x := y + dl) (by omega) (by omega)]; exact Int.tmod_eq_emod_of_nonneg (by omega)
  by_cases h0 : off = 0
  · have hg : segG t d fr dl pl off c = some ((c + dl) % 65536) := by unfold segG; rw [if_pos h0]
    refine Ev.step (fun k => ?_) (hsome _ hg)
    simp only [colophonref11_four.j4]
    rw [if_neg (by decide), if_pos h0, em c hc (by omega)]
    rfl
  · have eo : Int.tmod off 2 = off % 2 := Int.tmod_eq_emod_of_nonneg hoff.1
    by_cases h1 : off % 2 = 0
    · have ea : wrap64 ((wrap64 (pl + off)) + (wrap64 (2 * (wrap64 (c - fr))))) = pl + off + 2 * (c - fr) := by
        rw [wrap64_small (x := c - fr) (by omega) (by omega), wrap64_small (x := 2 * (c - fr)) (by omega) (by omega), wrap64_small (x := pl + off) (by omega) (by omega), wrap64_small (by omega) (by omega)]
      refine Ev.step (f := fun k => colophonref11_four.j5 k (t.extract 0 d.toNat) n q xs x l fr dl pl off c (pl + off + 2 * (c - fr)) (decide (d < pl + off + 2 * (c - fr) + 2))) (fun k => ?_) ?_
      · simp only [colophonref11_four.j4]
        rw [if_neg (by decide), if_neg h0, eo, if_pos h1, ea, wrap64_small (x := pl + off + 2 * (c - fr) + 2) (by omega) (by omega), hsz, show ((d.toNat : Nat) : Int) = d from by omega]
      · by_cases h2 : d < pl + off + 2 * (c - fr) + 2
        · have hg : segG t d fr dl pl off c = none := by unfold segG; rw [if_neg h0, if_neg (fun hh => hh h1), if_pos h2]
          rw [hnone hg]
          refine Ev.step (f := fun _ => some ([], false)) (fun k => ?_) (Ev.now _)
          rw [decide_eq_true h2]
          simp only [colophonref11_four.j5, if_true]
        · have hy := tw_bd t (pl + off + 2 * (c - fr))
          have hU : colophonref08_U2.f (t.extract 0 d.toNat) (pl + off + 2 * (c - fr)) = some (tw t (pl + off + 2 * (c - fr))) := cut_U2 t _ _ hs (by omega) (by omega) (by omega)
          by_cases h3 : tw t (pl + off + 2 * (c - fr)) = 0
          · have hg : segG t d fr dl pl off c = some 0 := by unfold segG; rw [if_neg h0, if_neg (fun hh => hh h1), if_neg h2, if_pos h3]
            refine Ev.step (fun k => ?_) (hsome _ hg)
            rw [decide_eq_false h2]
            simp only [colophonref11_four.j5]
            rw [if_neg (by decide), hU]
            simp only [Option.bind_some]
            rw [h3, if_pos rfl]
            rfl
          · have hg : segG t d fr dl pl off c = some ((tw t (pl + off + 2 * (c - fr)) + dl) % 65536) := by unfold segG; rw [if_neg h0, if_neg (fun hh => hh h1), if_neg h2, if_neg h3]
            refine Ev.step (fun k => ?_) (hsome _ hg)
            rw [decide_eq_false h2]
            simp only [colophonref11_four.j5]
            rw [if_neg (by decide), hU]
            simp only [Option.bind_some]
            rw [if_neg h3, em _ hy.1 hy.2]
            rfl
    · have hg : segG t d fr dl pl off c = none := by unfold segG; rw [if_neg h0, if_pos h1]
      rw [hnone hg]
      refine Ev.step (f := fun k => colophonref11_four.j5 k (t.extract 0 d.toNat) n q xs x l fr dl pl off c (wrap64 ((wrap64 (pl + off)) + (wrap64 (2 * (wrap64 (c - fr)))))) true) (fun k => ?_) ?_
      · simp only [colophonref11_four.j4]
        rw [if_neg (by decide), if_neg h0, eo, if_neg h1]
      · refine Ev.step (f := fun _ => some ([], false)) (fun k => ?_) (Ev.now _)
        simp only [colophonref11_four.j5, if_true]
theorem four_l2 (t : ByteArray) (n q d : Int) (x l fr dl pl off : Int) (R : List S47 × Bool) (hs : t.size ≤ 140737488351232) (hd : 0 ≤ d) (hd2 : d ≤ (t.size : Int))
    (hf : 0 ≤ fr) (hl : l ≤ 65535) (hdl : 0 ≤ dl ∧ dl ≤ 65535) (hpl : 0 ≤ pl ∧ pl ≤ 1000000) (hoff : 0 ≤ off ∧ off ≤ 65535) : ∀ (k : Nat) (c : Int) (xs : List S47), fr ≤ c → c + k = segE l → AllOk xs → xs.length ≤ 4096 →
    ((segRun t n d fr dl pl off k c xs).1 = true → (segRun t n d fr dl pl off k c xs).2.length ≤ 4096 → AllOk (segRun t n d fr dl pl off k c xs).2 → Ev (fun k' => colophonref11_four.l1 k' (t.extract 0 d.toNat) n q (segRun t n d fr dl pl off k c xs).2 (wrap64 (x + 1))) R) →
    (¬ ((segRun t n d fr dl pl off k c xs).1 = true ∧ (segRun t n d fr dl pl off k c xs).2.length ≤ 4096) → R = ([], false)) →
    Ev (fun k' => colophonref11_four.l2 k' (t.extract 0 d.toNat) n q xs x l fr dl pl off c) R := by
  intro k
  induction k with
  | zero =>
    intro c xs h0 h1 hok hlen hE _
    have hE := hE rfl hlen hok
    simp only [segRun] at hE
    unfold segE at h1
    by_cases h2 : l < 65535
    · rw [if_pos h2] at h1
      refine Ev.step (fun k => ?_) hE
      rw [colophonref11_four.l2, if_neg (by omega)]
    · rw [if_neg h2] at h1
      refine Ev.step (f := fun k => colophonref11_four.j4 k (t.extract 0 d.toNat) n q xs x l fr dl pl off c true) (fun k => ?_) ?_
      · rw [colophonref11_four.l2, if_pos (by omega), if_pos (by omega)]
      · refine Ev.step (f := fun k => colophonref11_four.l2 k (t.extract 0 d.toNat) n q xs x l fr dl pl off (c + 1)) (fun k => ?_) ?_
        · simp only [colophonref11_four.j4]
          rw [if_pos trivial, wrap64_small (x := c + 1) (by omega) (by omega)]
        · refine Ev.step (fun k => ?_) hE
          rw [colophonref11_four.l2, if_neg (by omega)]
  | succ k ih =>
    intro c xs h0 h1 hok hlen hE hB
    have hcl : c ≤ l ∧ c ≤ 65534 := by unfold segE at h1; split at h1 <;> omega
    have ec : wrap64 (c + 1) = c + 1 := wrap64_small (by omega) (by omega)
    refine Ev.step (f := fun k => colophonref11_four.j4 k (t.extract 0 d.toNat) n q xs x l fr dl pl off c (decide (55296 ≤ c ∧ c ≤ 57343))) (fun k => ?_) ?_
    · rw [colophonref11_four.l2, if_pos (by omega), if_neg (by omega), Is_f c (by omega) (by omega)]
      simp only [Option.bind_some, Bool.not_not]
    · by_cases hsur : 55296 ≤ c ∧ c ≤ 57343
      · rw [segRun_sur hsur] at hE hB
        rw [decide_eq_true hsur]
        refine Ev.step (f := fun k => colophonref11_four.l2 k (t.extract 0 d.toNat) n q xs x l fr dl pl off (c + 1)) (fun k => ?_) (ih (c + 1) xs (by omega) (by omega) hok hlen hE hB)
        simp only [colophonref11_four.j4]
        rw [if_pos trivial, ec]
      · rw [decide_eq_false hsur]
        refine four_j4 t n q d xs x l fr dl pl off c R hs hd hd2 (by omega) hcl.2 hf h0 hdl hpl hoff ?_ ?_
        · intro hg
          rw [segRun_none hsur hg] at hB
          exact hB (fun hh => by simpa using hh.1)
        · intro g hg
          have hgb := segG_bd hg
          have hA := add_ev xs c g hok hlen (by omega) (by omega) hgb.1 (by omega)
          by_cases hn : n ≤ g
          · rw [segRun_big hsur hg hn] at hB
            rw [hB (fun hh => by simpa using hh.1)]
            unfold fourTail
            refine Ev.bind hA ?_
            simpa only [if_pos (show g ≥ n from hn)] using Ev.now _
          · rw [segRun_take hsur hg hn] at hE hB
            unfold fourTail
            by_cases h4 : (takeS xs c g).length ≤ 4096
            · rw [if_pos h4] at hA
              refine Ev.bind hA ?_
              simp only [if_neg (show ¬ g ≥ n from hn), if_true, ec]
              exact ih (c + 1) (takeS xs c g) (by omega) (by omega) (takeS_ok hok (by omega) (by omega) hgb.1 (by omega)) h4 hE hB
            · rw [if_neg h4] at hA
              rw [hB (fun hh => h4 (by have := segRun_grow t n d fr dl pl off k (c + 1) (takeS xs c g); omega))]
              refine Ev.bind hA ?_
              simp only [if_neg (show ¬ g ≥ n from hn)]
              simpa using Ev.now _
theorem row_U2 {t : ByteArray} {x q d : Int} (hs : t.size ≤ 140737488351232) (hd2 : d ≤ (t.size : Int)) (h0 : 0 ≤ x) (h1 : x < q) (hq : q ≤ 32767) (h2 : 16 + 8 * q ≤ d) :
    colophonref08_U2.f (t.extract 0 d.toNat) (wrap64 (14 + (wrap64 (2 * x)))) = some (sL t (2 * x)) ∧ colophonref08_U2.f (t.extract 0 d.toNat) (wrap64 ((wrap64 (16 + (wrap64 (2 * q)))) + (wrap64 (2 * x)))) = some (sF t (2 * q) (2 * x)) ∧
    colophonref08_U2.f (t.extract 0 d.toNat) (wrap64 ((wrap64 (16 + (wrap64 (4 * q)))) + (wrap64 (2 * x)))) = some (sD t (2 * q) (2 * x)) ∧ wrap64 ((wrap64 (16 + (wrap64 (6 * q)))) + (wrap64 (2 * x))) = sP (2 * q) (2 * x) ∧
    colophonref08_U2.f (t.extract 0 d.toNat) (sP (2 * q) (2 * x)) = some (sO t (2 * q) (2 * x)) := by
  rw [wrap64_small (x := 2 * x) (by omega) (by omega), wrap64_small (x := 14 + 2 * x) (by omega) (by omega), wrap64_small (x := 2 * q) (by omega) (by omega), wrap64_small (x := 16 + 2 * q) (by omega) (by omega), wrap64_small (x := 16 + 2 * q + 2 * x) (by omega) (by omega), wrap64_small (x := 4 * q) (by omega) (by omega), wrap64_small (x := 16 + 4 * q) (by omega) (by omega), wrap64_small (x := 16 + 4 * q + 2 * x) (by omega) (by omega), wrap64_small (x := 6 * q) (by omega) (by omega), wrap64_small (x := 16 + 6 * q) (by omega) (by omega), wrap64_small (x := 16 + 6 * q + 2 * x) (by omega) (by omega)]
  unfold sL sF sD sO sP
  rw [show (16 : Int) + 2 * (2 * q) = 16 + 4 * q from by omega, show (16 : Int) + 3 * (2 * q) = 16 + 6 * q from by omega]
  exact ⟨cut_U2 t _ _ hs (by omega) (by omega) (by omega), cut_U2 t _ _ hs (by omega) (by omega) (by omega), cut_U2 t _ _ hs (by omega) (by omega) (by omega), rfl, cut_U2 t _ _ hs (by omega) (by omega) (by omega)⟩
theorem four_l1 (t : ByteArray) (n q d : Int) (hs : t.size ≤ 140737488351232) (hd2 : d ≤ (t.size : Int)) (hq : q ≤ 32767) (h2 : 16 + 8 * q ≤ d) (hd3 : d ≤ 65535) (hrow : ∀ j : Int, 0 ≤ j → j < q → sF t (2 * q) (2 * j) ≤ sL t (2 * j)) : ∀ (r : Nat) (x : Int) (xs : List S47), 0 ≤ x → x + r = q → AllOk xs → xs.length ≤ 4096 →
    Ev (fun k => colophonref11_four.l1 k (t.extract 0 d.toNat) n q xs x) (match runsS t n d (2 * q) r (2 * x) xs with | none => ([], false) | some zs => if zs.length ≤ 4096 then (zs, true) else ([], false)) := by
  intro r
  induction r with
  | zero =>
    intro x xs h0 h1 hok hl
    rw [show runsS t n d (2 * q) 0 (2 * x) xs = some xs from rfl]
    simp only [if_pos hl]
    refine Ev.step (f := fun _ => some (xs, true)) (fun k => ?_) (Ev.now _)
    rw [colophonref11_four.l1, if_neg (by omega)]
  | succ r ih =>
    intro x xs h0 h1 hok hl
    obtain ⟨e1, e2, e3, e4, e5⟩ := row_U2 (t := t) (x := x) (q := q) (d := d) hs hd2 h0 (by omega) hq h2
    have hr := hrow x h0 (by omega)
    have bF : 0 ≤ sF t (2 * q) (2 * x) ∧ sF t (2 * q) (2 * x) ≤ 65535 := tw_bd t _
    have bL : 0 ≤ sL t (2 * x) ∧ sL t (2 * x) ≤ 65535 := tw_bd t _
    have bD : 0 ≤ sD t (2 * q) (2 * x) ∧ sD t (2 * q) (2 * x) ≤ 65535 := tw_bd t _
    have bO : 0 ≤ sO t (2 * q) (2 * x) ∧ sO t (2 * q) (2 * x) ≤ 65535 := tw_bd t _
    have eR : runsS t n d (2 * q) (r + 1) (2 * x) xs = if (segRun t n d (sF t (2 * q) (2 * x)) (sD t (2 * q) (2 * x)) (sP (2 * q) (2 * x)) (sO t (2 * q) (2 * x)) (segE (sL t (2 * x)) - sF t (2 * q) (2 * x)).toNat (sF t (2 * q) (2 * x)) xs).1 = true then runsS t n d (2 * q) r (2 * x + 2) (segRun t n d (sF t (2 * q) (2 * x)) (sD t (2 * q) (2 * x)) (sP (2 * q) (2 * x)) (sO t (2 * q) (2 * x)) (segE (sL t (2 * x)) - sF t (2 * q) (2 * x)).toNat (sF t (2 * q) (2 * x)) xs).2 else none := rfl
    refine Ev.step (f := fun k => colophonref11_four.l2 k (t.extract 0 d.toNat) n q xs x (sL t (2 * x)) (sF t (2 * q) (2 * x)) (sD t (2 * q) (2 * x)) (sP (2 * q) (2 * x)) (sO t (2 * q) (2 * x)) (sF t (2 * q) (2 * x))) (fun k => ?_) ?_
    · rw [colophonref11_four.l1, if_pos (by omega), e1, e2, e3, e4, e5]; rfl
    · refine four_l2 t n q d x _ _ _ _ _ _ hs (by omega) hd2 bF.1 bL.2 bD (by unfold sP; omega) bO (segE (sL t (2 * x)) - sF t (2 * q) (2 * x)).toNat _ xs (Int.le_refl _) (by unfold segE; split <;> omega) hok hl ?_ ?_
      · intro hp h4 hok2
        rw [eR, if_pos hp, wrap64_small (x := x + 1) (by omega) (by omega), show 2 * x + 2 = 2 * (x + 1) from by omega]
        exact ih (x + 1) _ (by omega) (by omega) hok2 h4
      · intro hno
        rw [eR]
        split
        · rfl
        · rename_i zs hz
          split at hz
          · rename_i hp
            have := runsS_grow t n d (2 * q) r _ _ _ hz
            rw [if_neg (fun h5 => hno ⟨hp, by omega⟩)]
          · exact absurd hz (by simp)
theorem four_l0 (t : ByteArray) (n q d : Int) (hs : t.size ≤ 140737488351232) (hd2 : d ≤ (t.size : Int)) (hq : q ≤ 32767) (h2 : 16 + 8 * q ≤ d) (R : List S47 × Bool) : ∀ (r : Nat) (x before : Int), 0 ≤ x → x + (r + 1 : Nat) = q → (x = 0 → before = -1) → (0 < x → before = sL t (2 * x - 2)) →
    (rowsS t (2 * q) (r + 1) (2 * x) before → Ev (fun k => colophonref11_four.l1 k (t.extract 0 d.toNat) n q [] 0) R) → (¬ rowsS t (2 * q) (r + 1) (2 * x) before → R = ([], false)) →
    Ev (fun k => colophonref11_four.l0 k (t.extract 0 d.toNat) n q x) R := by
  intro r
  induction r with
  | zero =>
    intro x before h0 h1 hb0 hb1 hE hB
    obtain ⟨e1, e2, _, _, _⟩ := row_U2 (t := t) (x := x) (q := q) (d := d) hs hd2 h0 (by omega) hq h2
    have bF : 0 ≤ sF t (2 * q) (2 * x) ∧ sF t (2 * q) (2 * x) ≤ 65535 := tw_bd t _
    have hsplit : rowsS t (2 * q) (0 + 1) (2 * x) before ↔ (¬ (sF t (2 * q) (2 * x) ≤ before ∨ sL t (2 * x) < sF t (2 * q) (2 * x)) ∧ sL t (2 * x) = 65535) := Iff.rfl
    rw [hsplit] at hE hB
    have el : wrap64 (q - 1) = q - 1 := wrap64_small (by omega) (by omega)
    have hend : ¬ (sF t (2 * q) (2 * x) ≤ before ∨ sL t (2 * x) < sF t (2 * q) (2 * x)) → Ev (fun k => if sL t (2 * x) = 65535 then colophonref11_four.l0 k (t.extract 0 d.toNat) n q (wrap64 (x + 1)) else some ([], false)) R := by
      intro hnb
      by_cases h3 : sL t (2 * x) = 65535
      · simp only [if_pos h3]
        rw [wrap64_small (x := x + 1) (by omega) (by omega)]
        refine Ev.step (fun k => ?_) (hE ⟨hnb, h3⟩)
        rw [colophonref11_four.l0, if_neg (by omega)]
      · simp only [if_neg h3]
        rw [hB (fun hh => h3 hh.2)]
        exact Ev.now _
    by_cases h3 : sL t (2 * x) < sF t (2 * q) (2 * x)
    · rw [hB (fun hh => hh.1 (.inr h3))]
      refine Ev.step (f := fun _ => some ([], false)) (fun k => ?_) (Ev.now _)
      rw [colophonref11_four.l0, if_pos (by omega), e1, e2]
      simp only [Option.bind_some]
      rw [if_pos (show sF t (2 * q) (2 * x) > sL t (2 * x) from h3)]
    · by_cases hx : 0 < x
      · have e6 : colophonref08_U2.f (t.extract 0 d.toNat) (wrap64 (12 + (wrap64 (2 * x)))) = some before := by
          rw [hb1 hx, wrap64_small (x := 2 * x) (by omega) (by omega), wrap64_small (x := 12 + 2 * x) (by omega) (by omega)]
          unfold sL
          rw [show (14 : Int) + (2 * x - 2) = 12 + 2 * x from by omega]
          exact cut_U2 t _ _ hs (by omega) (by omega) (by omega)
        by_cases h4 : sF t (2 * q) (2 * x) ≤ before
        · rw [hB (fun hh => hh.1 (.inl h4))]
          refine Ev.step (f := fun _ => some ([], false)) (fun k => ?_) (Ev.now _)
          rw [colophonref11_four.l0, if_pos (by omega), e1, e2]
          simp only [Option.bind_some]
          rw [if_neg (show ¬ sF t (2 * q) (2 * x) > sL t (2 * x) from h3), if_pos (show x > 0 from hx), e6]
          simp only [Option.bind_some]
          rw [if_pos h4]
        · refine Ev.step (fun k => ?_) (hend (fun hh => by rcases hh with h | h <;> contradiction))
          rw [colophonref11_four.l0, if_pos (by omega), e1, e2]
          simp only [Option.bind_some]
          rw [if_neg (show ¬ sF t (2 * q) (2 * x) > sL t (2 * x) from h3), if_pos (show x > 0 from hx), e6]
          simp only [Option.bind_some]
          rw [if_neg h4, el, if_pos (by omega)]
      · refine Ev.step (fun k => ?_) (hend (fun hh => by rcases hh with h | h; (have := hb0 (by omega); omega); contradiction))
        rw [colophonref11_four.l0, if_pos (by omega), e1, e2]
        simp only [Option.bind_some]
        rw [if_neg (show ¬ sF t (2 * q) (2 * x) > sL t (2 * x) from h3), if_neg (show ¬ x > 0 from hx), el, if_pos (by omega)]
  | succ r ih =>
    intro x before h0 h1 hb0 hb1 hE hB
    obtain ⟨e1, e2, _, _, _⟩ := row_U2 (t := t) (x := x) (q := q) (d := d) hs hd2 h0 (by omega) hq h2
    have bF : 0 ≤ sF t (2 * q) (2 * x) ∧ sF t (2 * q) (2 * x) ≤ 65535 := tw_bd t _
    have hsplit : rowsS t (2 * q) (r + 1 + 1) (2 * x) before ↔ (¬ (sF t (2 * q) (2 * x) ≤ before ∨ sL t (2 * x) < sF t (2 * q) (2 * x)) ∧ rowsS t (2 * q) (r + 1) (2 * x + 2) (sL t (2 * x))) := Iff.rfl
    rw [hsplit] at hE hB
    have el : wrap64 (q - 1) = q - 1 := wrap64_small (by omega) (by omega)
    have hend : ¬ (sF t (2 * q) (2 * x) ≤ before ∨ sL t (2 * x) < sF t (2 * q) (2 * x)) → Ev (fun k => colophonref11_four.l0 k (t.extract 0 d.toNat) n q (wrap64 (x + 1))) R := by
      intro hnb
      rw [wrap64_small (x := x + 1) (by omega) (by omega)]
      refine ih (x + 1) (sL t (2 * x)) (by omega) (by omega) (by omega) (fun _ => by rw [show 2 * (x + 1) - 2 = 2 * x from by omega]) (fun hr => ?_) (fun hr => ?_)
      · rw [show 2 * (x + 1) = 2 * x + 2 from by omega] at hr
        exact hE ⟨hnb, hr⟩
      · rw [show 2 * (x + 1) = 2 * x + 2 from by omega] at hr
        exact hB (fun hh => hr hh.2)
    by_cases h3 : sL t (2 * x) < sF t (2 * q) (2 * x)
    · rw [hB (fun hh => hh.1 (.inr h3))]
      refine Ev.step (f := fun _ => some ([], false)) (fun k => ?_) (Ev.now _)
      rw [colophonref11_four.l0, if_pos (by omega), e1, e2]
      simp only [Option.bind_some]
      rw [if_pos (show sF t (2 * q) (2 * x) > sL t (2 * x) from h3)]
    · by_cases hx : 0 < x
      · have e6 : colophonref08_U2.f (t.extract 0 d.toNat) (wrap64 (12 + (wrap64 (2 * x)))) = some before := by
          rw [hb1 hx, wrap64_small (x := 2 * x) (by omega) (by omega), wrap64_small (x := 12 + 2 * x) (by omega) (by omega)]
          unfold sL
          rw [show (14 : Int) + (2 * x - 2) = 12 + 2 * x from by omega]
          exact cut_U2 t _ _ hs (by omega) (by omega) (by omega)
        by_cases h4 : sF t (2 * q) (2 * x) ≤ before
        · rw [hB (fun hh => hh.1 (.inl h4))]
          refine Ev.step (f := fun _ => some ([], false)) (fun k => ?_) (Ev.now _)
          rw [colophonref11_four.l0, if_pos (by omega), e1, e2]
          simp only [Option.bind_some]
          rw [if_neg (show ¬ sF t (2 * q) (2 * x) > sL t (2 * x) from h3), if_pos (show x > 0 from hx), e6]
          simp only [Option.bind_some]
          rw [if_pos h4]
        · refine Ev.step (fun k => ?_) (hend (fun hh => by rcases hh with h | h <;> contradiction))
          rw [colophonref11_four.l0, if_pos (by omega), e1, e2]
          simp only [Option.bind_some]
          rw [if_neg (show ¬ sF t (2 * q) (2 * x) > sL t (2 * x) from h3), if_pos (show x > 0 from hx), e6]
          simp only [Option.bind_some]
          rw [if_neg h4, el, if_neg (by omega)]
      · refine Ev.step (fun k => ?_) (hend (fun hh => by rcases hh with h | h; (have := hb0 (by omega); omega); contradiction))
        rw [colophonref11_four.l0, if_pos (by omega), e1, e2]
        simp only [Option.bind_some]
        rw [if_neg (show ¬ sF t (2 * q) (2 * x) > sL t (2 * x) from h3), if_neg (show ¬ x > 0 from hx), el, if_neg (by omega)]
theorem rowsS_at {t : ByteArray} {m : Int} : ∀ (r : Nat) (i before : Int), rowsS t m r i before → ∀ j : Int, 0 ≤ j → j < r → sF t m (i + 2 * j) ≤ sL t (i + 2 * j) := by
  intro r
  induction r with
  | zero => intro i before _ j h0 h1; omega
  | succ r ih =>
    intro i before h j h0 h1
    by_cases e : j = 0
    · have := h.1; rw [e, show i + 2 * 0 = i from by omega]; omega
    · have := ih (i + 2) _ h.2 (j - 1) (by omega) (by omega)
      rw [show i + 2 + 2 * (j - 1) = i + 2 * j from by omega] at this
      exact this
theorem refOf_no {p : Bool × List S47} (h : p.1 = false) : refOf p = ([], false) := by unfold refOf; rw [if_neg (fun hh => by rw [h] at hh; simp at hh)]
theorem four_no (t : ByteArray) (n q d : Int) (k : Nat) : colophonref11_four.j0 (k + 1) t n q d true = some ([], false) := by
  simp only [colophonref11_four.j0, if_true]
theorem four_ev (t : ByteArray) (n : Int) (hs : t.size ≤ 140737488351232) : Ev (fun k => colophonref11_four.f k t n) (refOf (segsS t n [])) := by
  have hs' : t.size ≤ 9223372036854775807 := by omega
  have hno : ∀ {xs : List S47}, refOf (false, xs) = ([], false) := refOf_no rfl
  by_cases h : (t.size : Int) < 16
  · have hR : refOf (segsS t n []) = ([], false) := by
      refine refOf_no ?_
      unfold segsS
      split
      · rfl
      · split
        · rfl
        · split
          · rfl
          · split
            · rfl
            · split
              · rfl
              · split
                · rfl
                · exfalso; omega
    rw [hR]
    refine Ev.step (f := fun _ => some ([], false)) (fun k => ?_) (Ev.now _)
    unfold colophonref11_four.f
    rw [U2_f t 6 hs', U2_f t 2 hs']
    simp only [Option.bind_some]
    rw [if_pos h, four_no]
  · have b6 := tw_bd t 6
    have b2 := tw_bd t 2
    have e6 : u2 t 6 = tw t 6 := u2_in (by omega) (by omega)
    have e2 : u2 t 2 = tw t 2 := u2_in (by omega) (by omega)
    have eq1 : wrap64 (Int.tdiv (tw t 6) 2) = tw t 6 / 2 := by rw [Int.tdiv_eq_ediv_of_nonneg b6.1]; exact wrap64_small (by omega) (by omega)
    have eq2 : Int.tmod (tw t 6) 2 = tw t 6 % 2 := Int.tmod_eq_emod_of_nonneg b6.1
    have hstart : ∀ k, colophonref11_four.f k t n = (if (t.extract 0 2).toList = ([0, 4] : List UInt8) then (if tw t 6 % 2 = 0 then (if tw t 6 / 2 < 1 then (colophonref11_four.j0 k t n (tw t 6 / 2) (tw t 2) true) else (if tw t 2 < 16 + 8 * (tw t 6 / 2) then (colophonref11_four.j0 k t n (tw t 6 / 2) (tw t 2) true) else (colophonref11_four.j0 k t n (tw t 6 / 2) (tw t 2) (decide (tw t 2 > (t.size : Int)))))) else (colophonref11_four.j0 k t n (tw t 6 / 2) (tw t 2) true)) else (colophonref11_four.j0 k t n (tw t 6 / 2) (tw t 2) true)) := by
      intro k
      unfold colophonref11_four.f
      rw [U2_f t 6 hs', U2_f t 2 hs', e6, e2]
      simp only [Option.bind_some]
      rw [if_neg h, if_pos (by omega), if_pos (by omega), eq1, eq2, wrap64_small (x := 8 * (tw t 6 / 2)) (by omega) (by omega), wrap64_small (x := 16 + 8 * (tw t 6 / 2)) (by omega) (by omega)]
    refine Ev.congr hstart ?_
    unfold segsS
    rw [if_neg (show ¬ (t.size : Int) < 8 from by omega)]
    have t0 := tw_0 t 4 (by decide) 4 rfl (by omega)
    by_cases h2 : tw t 0 = 4
    · rw [if_neg (fun hh => hh h2)]
      simp only [if_pos (t0.1 h2)]
      by_cases h4 : tw t 6 % 2 = 0
      · simp only [if_pos h4]
        by_cases h3 : tw t 6 < 2
        · rw [if_pos h3, hno]
          simp only [if_pos (show tw t 6 / 2 < 1 from by omega)]
          exact Ev.step (f := fun _ => some ([], false)) (fun k => four_no _ _ _ _ _) (Ev.now _)
        · rw [if_neg h3, if_neg (fun hh => hh h4)]
          simp only [if_neg (show ¬ tw t 6 / 2 < 1 from by omega)]
          by_cases h5 : tw t 2 < 16 + 4 * tw t 6
          · rw [if_pos h5, hno]
            simp only [if_pos (show tw t 2 < 16 + 8 * (tw t 6 / 2) from by omega)]
            exact Ev.step (f := fun _ => some ([], false)) (fun k => four_no _ _ _ _ _) (Ev.now _)
          · rw [if_neg h5]
            simp only [if_neg (show ¬ tw t 2 < 16 + 8 * (tw t 6 / 2) from by omega)]
            by_cases h6 : (t.size : Int) < tw t 2
            · rw [if_pos h6, hno, decide_eq_true (show tw t 2 > (t.size : Int) from h6)]
              exact Ev.step (f := fun _ => some ([], false)) (fun k => four_no _ _ _ _ _) (Ev.now _)
            · rw [if_neg h6, decide_eq_false (show ¬ tw t 2 > (t.size : Int) from h6)]
              obtain ⟨q, hq⟩ : ∃ q, tw t 6 = 2 * q := ⟨tw t 6 / 2, by omega⟩
              have hq2 : tw t 6 / 2 = q := by omega
              have bq : 1 ≤ q ∧ q ≤ 32767 ∧ 16 + 8 * q ≤ tw t 2 ∧ tw t 2 ≤ (t.size : Int) := by omega
              rw [hq2, hq]
              clear eq1 eq2 hstart hq hq2 b6 h3 h4 h5 h6 e6
              generalize tw t 2 = d at *
              refine Ev.step (f := fun k => colophonref11_four.l0 k (t.extract 0 d.toNat) n q 0) (fun k => ?_) ?_
              · simp only [colophonref11_four.j0]; rw [if_neg (by decide), if_pos b2.1, if_pos (by omega)]
              · obtain ⟨r, hr⟩ : ∃ r : Nat, q.toNat = r + 1 := ⟨q.toNat - 1, by omega⟩
                rw [hr]
                refine four_l0 t n q d hs (by omega) (by omega) (by omega) _ r 0 (-1) (by omega) (by omega) (fun _ => rfl) (fun hh => absurd hh (by omega)) ?_ ?_
                · intro hrow
                  have hrow' := rowsS_at _ _ _ hrow
                  have := four_l1 t n q d hs (by omega) (by omega) (by omega) (by omega) (fun j h0 h1 => by have := hrow' j h0 (by omega); rw [show (2 : Int) * 0 + 2 * j = 2 * j from by omega] at this; exact this) (r + 1) 0 [] (by omega) (by omega) (fun x hx => by simp at hx) (by simp)
                  rw [show (2 : Int) * 0 = 0 from rfl] at this hrow
                  cases hz : runsS t n d (2 * q) (r + 1) 0 [] with
                  | none =>
                    rw [hz] at this
                    rw [refOf_no (segsL_no2 _ _ (-1) _ hz)]
                    exact this
                  | some zs =>
                    rw [hz] at this
                    rw [segsL_ok _ _ _ _ _ hrow hz]
                    unfold refOf
                    simpa only [true_and] using this
                · intro hrow
                  rw [show (2 : Int) * 0 = 0 from rfl] at hrow
                  exact refOf_no (segsL_no1 _ _ _ _ hrow)
      · simp only [if_neg h4]
        by_cases h3 : tw t 6 < 2
        · rw [if_pos h3, hno]
          exact Ev.step (f := fun _ => some ([], false)) (fun k => four_no _ _ _ _ _) (Ev.now _)
        · rw [if_neg h3, if_pos h4, hno]
          exact Ev.step (f := fun _ => some ([], false)) (fun k => four_no _ _ _ _ _) (Ev.now _)
    · rw [if_pos h2, hno]
      simp only [if_neg (fun hh => h2 (t0.2 hh))]
      exact Ev.step (f := fun _ => some ([], false)) (fun k => four_no _ _ _ _ _) (Ev.now _)

end Go.Proofs.Ytldcgkkbmnahiaa.Px
