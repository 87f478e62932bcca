/- the reference's table of groups -/
import Derived.Test.YtldcgkkbmnahiaaQa
import Derived.Test.YtldcgkkbmnahiaaPxx8
namespace Go.Proofs.Ytldcgkkbmnahiaa.Px
set_option linter.unusedSimpArgs false
set_option linter.unusedVariables false
open Go.RowKit Go.Proofs.YtldcgkkbmnahiaaW.PrintWords Go.Proofs.YtldcgkkbmnahiaaW.PrintLast Go.Proofs.YtldcgkkbmnahiaaW.PrintMore

/-- what the groups' rows put together -/
def groupsRun (t : ByteArray) : Nat → Int → List S47 → List S47
  | 0, _, xs => xs
  | r + 1, i, xs => groupsRun t r (i + 1) (takeRun xs (gA t i) (gG t i) (gB t i - gA t i + 1).toNat)
/-- the rows are good -/
def rowsOk (t : ByteArray) (n : Int) : Nat → Int → Int → Prop
  | 0, _, _ => True
  | r + 1, i, last => ¬ (gB t i < gA t i ∨ gA t i ≤ last ∨ 1114111 < gB t i ∨ n ≤ gG t i + gB t i - gA t i) ∧ rowsOk t n r (i + 1) (gB t i)
theorem groupsL_ok {t : ByteArray} {n : Int} : ∀ (r : Nat) (i last : Int) (xs : List S47), rowsOk t n r i last → groupsL t n r i last xs = (true, groupsRun t r i xs) := by
  intro r
  induction r with
  | zero => intro i last xs _; rfl
  | succ r ih =>
    intro i last xs h
    rw [groupsL_good h.1, ih _ _ _ h.2]; rfl
theorem groupsL_no {t : ByteArray} {n : Int} : ∀ (r : Nat) (i last : Int) (xs : List S47), ¬ rowsOk t n r i last → (groupsL t n r i last xs).1 = false := by
  intro r
  induction r with
  | zero => intro i last xs h; exact absurd trivial h
  | succ r ih =>
    intro i last xs h
    by_cases hb : gB t i < gA t i ∨ gA t i ≤ last ∨ 1114111 < gB t i ∨ n ≤ gG t i + gB t i - gA t i
    · rw [groupsL_bad hb]
    · rw [groupsL_good hb]; exact ih _ _ _ (fun hh => h ⟨hb, hh⟩)
theorem groupsRun_grow (t : ByteArray) : ∀ (r : Nat) (i : Int) (xs : List S47), xs.length ≤ (groupsRun t r i xs).length := by
  intro r
  induction r with
  | zero => intro i xs; simp [groupsRun]
  | succ r ih => intro i xs; simp only [groupsRun]; have := ih (i + 1) (takeRun xs (gA t i) (gG t i) (gB t i - gA t i + 1).toNat); have := takeRun_grow (gA t i) (gG t i) (gB t i - gA t i + 1).toNat xs; omega
theorem rowsOk_at {t : ByteArray} {n : Int} : ∀ (r : Nat) (i last : Int), rowsOk t n r i last → ∀ j : Int, i ≤ j → j < i + r → gA t j ≤ gB t j ∧ gB t j ≤ 1114111 ∧ gG t j + gB t j - gA t j < n := by
  intro r
  induction r with
  | zero => intro i last _ j h0 h1; omega
  | succ r ih =>
    intro i last h j h0 h1
    by_cases e : j = i
    · have := h.1; rw [e]; omega
    · exact ih (i + 1) _ h.2 j (by omega) (by omega)
theorem gA_bd (t : ByteArray) (i : Int) : 0 ≤ gA t i ∧ gA t i ≤ 4294967295 := fo_bd t _
theorem gB_bd (t : ByteArray) (i : Int) : 0 ≤ gB t i ∧ gB t i ≤ 4294967295 := fo_bd t _
theorem gG_bd (t : ByteArray) (i : Int) : 0 ≤ gG t i ∧ gG t i ≤ 4294967295 := fo_bd t _
theorem row_U4 {t : ByteArray} {i m : Int} (hs : t.size ≤ 9223372036854775807) (h0 : 0 ≤ i) (h1 : i < m) (hm : m ≤ 4096) (h2 : 16 + 12 * m ≤ (t.size : Int)) :
    colophonref08_U4.f t (wrap64 (16 + (wrap64 (12 * i)))) = some (gA t i) ∧ colophonref08_U4.f t (wrap64 (20 + (wrap64 (12 * i)))) = some (gB t i) ∧ colophonref08_U4.f t (wrap64 (24 + (wrap64 (12 * i)))) = some (gG t i) := by
  rw [wrap64_small (x := 12 * i) (by omega) (by omega), wrap64_small (x := 16 + 12 * i) (by omega) (by omega), wrap64_small (x := 20 + 12 * i) (by omega) (by omega), wrap64_small (x := 24 + 12 * i) (by omega) (by omega)]
  rw [U4_f t _ hs (by omega) (by omega), U4_f t _ hs (by omega) (by omega), U4_f t _ hs (by omega) (by omega)]
  rw [u4_in (by omega) (by omega), u4_in (by omega) (by omega), u4_in (by omega) (by omega)]
  unfold gA gB gG
  rw [show (20 : Int) + 12 * i = 16 + 12 * i + 4 from by omega, show (24 : Int) + 12 * i = 16 + 12 * i + 8 from by omega]
  exact ⟨rfl, rfl, rfl⟩
theorem twelve_l2 (t : ByteArray) (m i a b g : Int) (R : List S47 × Bool) (ha : 0 ≤ a) (hb : b ≤ 1114111) (hg : 0 ≤ g) (hg2 : g + b - a ≤ 4294967295) : ∀ (d : Nat) (c : Int) (xs : List S47), a ≤ c → c + d = b + 1 → AllOk xs → xs.length ≤ 4096 →
    ((takeRun xs c (g + c - a) d).length ≤ 4096 → AllOk (takeRun xs c (g + c - a) d) → Ev (fun k => colophonref11_twelve.l1 k t m (takeRun xs c (g + c - a) d) (wrap64 (i + 1))) R) →
    (¬ (takeRun xs c (g + c - a) d).length ≤ 4096 → R = ([], false)) →
    Ev (fun k => colophonref11_twelve.l2 k t m xs i a b g c) R := by
  intro d
  induction d with
  | zero =>
    intro c xs h0 h1 hok hl hE _
    have hE := hE (by simpa [takeRun] using hl) (by simpa [takeRun] using hok)
    simp only [takeRun] at hE
    refine Ev.step (fun k => ?_) hE
    rw [colophonref11_twelve.l2, if_neg (by omega)]
  | succ d ih =>
    intro c xs h0 h1 hok hl hE hB
    rw [takeRun_head] at hE hB
    have hA := add_ev xs c (g + c - a) hok hl (by omega) (by omega) (by omega) (by omega)
    have hgr := takeRun_grow (c + 1) (g + c - a + 1) d (takeS xs c (g + c - a))
    have e1 : wrap64 (wrap64 (g + c) - a) = g + c - a := by rw [wrap64_small (x := g + c) (by omega) (by omega), wrap64_small (by omega) (by omega)]
    by_cases h4 : (takeS xs c (g + c - a)).length ≤ 4096
    · rw [if_pos h4] at hA
      have h2 := ih (c + 1) (takeS xs c (g + c - a)) (by omega) (by omega) (takeS_ok hok (by omega) (by omega) (by omega) (by omega)) h4
      rw [show g + (c + 1) - a = g + c - a + 1 from by omega] at h2
      have h2 := h2 hE hB
      refine Ev.step (f := fun k => (colophonref11_add.f k xs c (g + c - a)).bind fun bt => (if bt.2 = true then (colophonref11_twelve.l2 k t m bt.1 i a b g (wrap64 (c + 1))) else (some (([] : List (S47)), false)))) (fun k => ?_) (Ev.bind hA ?_)
      · rw [colophonref11_twelve.l2, if_pos (by omega), e1]
      · simp only [if_true]
        rw [wrap64_small (x := c + 1) (by omega) (by omega)]
        exact h2
    · rw [if_neg h4] at hA
      rw [hB (by omega)]
      refine Ev.step (f := fun k => (colophonref11_add.f k xs c (g + c - a)).bind fun bt => (if bt.2 = true then (colophonref11_twelve.l2 k t m bt.1 i a b g (wrap64 (c + 1))) else (some (([] : List (S47)), false)))) (fun k => ?_) (Ev.bind hA ?_)
      · rw [colophonref11_twelve.l2, if_pos (by omega), e1]
      · simpa using Ev.now _
theorem twelve_l1 (t : ByteArray) (n m : Int) (hs : t.size ≤ 9223372036854775807) (hm : m ≤ 4096) (h2 : 16 + 12 * m ≤ (t.size : Int)) (hn : n ≤ 4096)
    (hrow : ∀ j : Int, 0 ≤ j → j < m → gA t j ≤ gB t j ∧ gB t j ≤ 1114111 ∧ gG t j + gB t j - gA t j < n) : ∀ (r : Nat) (i : Int) (xs : List S47), 0 ≤ i → i + r = m → AllOk xs → xs.length ≤ 4096 →
    Ev (fun k => colophonref11_twelve.l1 k t m xs i) (if (groupsRun t r i xs).length ≤ 4096 then (groupsRun t r i xs, true) else ([], false)) := by
  intro r
  induction r with
  | zero =>
    intro i xs h0 h1 hok hl
    rw [show groupsRun t 0 i xs = xs from rfl, if_pos hl]
    refine Ev.step (f := fun _ => some (xs, true)) (fun k => ?_) (Ev.now _)
    rw [colophonref11_twelve.l1, if_neg (by omega)]
  | succ r ih =>
    intro i xs h0 h1 hok hl
    obtain ⟨e1, e2, e3⟩ := row_U4 (t := t) (i := i) (m := m) hs h0 (by omega) hm h2
    obtain ⟨r1, r2, r3⟩ := hrow i h0 (by omega)
    have ba := gA_bd t i; have bb := gB_bd t i; have bg := gG_bd t i
    rw [show groupsRun t (r + 1) i xs = groupsRun t r (i + 1) (takeRun xs (gA t i) (gG t i) (gB t i - gA t i + 1).toNat) from rfl]
    refine Ev.step (f := fun k => colophonref11_twelve.l2 k t m xs i (gA t i) (gB t i) (gG t i) (gA t i)) (fun k => ?_) ?_
    · rw [colophonref11_twelve.l1, if_pos (by omega), e1, e2, e3]; rfl
    · have hz : gG t i + gA t i - gA t i = gG t i := by omega
      refine twelve_l2 t m i (gA t i) (gB t i) (gG t i) _ ba.1 r2 bg.1 (by omega) (gB t i - gA t i + 1).toNat (gA t i) xs (Int.le_refl _) (by omega) hok hl ?_ ?_
      · intro h4 hok2
        rw [hz] at h4 hok2 ⊢
        rw [wrap64_small (x := i + 1) (by omega) (by omega)]
        exact ih (i + 1) _ (by omega) (by omega) hok2 h4
      · intro h4
        rw [hz] at h4
        rw [if_neg (by have := groupsRun_grow t r (i + 1) (takeRun xs (gA t i) (gG t i) (gB t i - gA t i + 1).toNat); omega)]
theorem twelve_l0 (t : ByteArray) (n m : Int) (hs : t.size ≤ 9223372036854775807) (hm : m ≤ 4096) (h2 : 16 + 12 * m ≤ (t.size : Int)) (R : List S47 × Bool) : ∀ (r : Nat) (i last : Int), 0 ≤ i → i + r = m →
    (rowsOk t n r i last → Ev (fun k => colophonref11_twelve.l1 k t m [] 0) R) → (¬ rowsOk t n r i last → R = ([], false)) →
    Ev (fun k => colophonref11_twelve.l0 k t n m last i) R := by
  intro r
  induction r with
  | zero =>
    intro i last h0 h1 hE _
    refine Ev.step (fun k => ?_) (hE trivial)
    rw [colophonref11_twelve.l0, if_neg (by omega)]
  | succ r ih =>
    intro i last h0 h1 hE hB
    obtain ⟨e1, e2, e3⟩ := row_U4 (t := t) (i := i) (m := m) hs h0 (by omega) hm h2
    have ba := gA_bd t i; have bb := gB_bd t i; have bg := gG_bd t i
    have e4 : wrap64 (wrap64 (gG t i + gB t i) - gA t i) = gG t i + gB t i - gA t i := by rw [wrap64_small (x := gG t i + gB t i) (by omega) (by omega), wrap64_small (by omega) (by omega)]
    have hbad : (gB t i < gA t i ∨ gA t i ≤ last ∨ 1114111 < gB t i ∨ n ≤ gG t i + gB t i - gA t i) → R = ([], false) := fun h => hB (fun hh => hh.1 h)
    refine Ev.step (f := fun k => if gA t i > gB t i then some ([], false) else if gA t i ≤ last then some ([], false) else if gB t i > 1114111 then some ([], false) else if gG t i + gB t i - gA t i ≥ n then some ([], false) else colophonref11_twelve.l0 k t n m (gB t i) (wrap64 (i + 1))) (fun k => ?_) ?_
    · rw [colophonref11_twelve.l0, if_pos (by omega), e1, e2, e3]
      simp only [Option.bind_some]
      rw [e4]
    · by_cases c1 : gB t i < gA t i
      · rw [hbad (.inl c1)]; simpa only [if_pos (show gA t i > gB t i from c1)] using Ev.now _
      · simp only [if_neg (show ¬ gA t i > gB t i from c1)]
        by_cases c2 : gA t i ≤ last
        · rw [hbad (.inr (.inl c2))]; simpa only [if_pos c2] using Ev.now _
        · simp only [if_neg c2]
          by_cases c3 : 1114111 < gB t i
          · rw [hbad (.inr (.inr (.inl c3)))]; simpa only [if_pos (show gB t i > 1114111 from c3)] using Ev.now _
          · simp only [if_neg (show ¬ gB t i > 1114111 from c3)]
            by_cases c4 : n ≤ gG t i + gB t i - gA t i
            · rw [hbad (.inr (.inr (.inr c4)))]; simpa only [if_pos (show gG t i + gB t i - gA t i ≥ n from c4)] using Ev.now _
            · simp only [if_neg (show ¬ gG t i + gB t i - gA t i ≥ n from c4)]
              have hnb : ¬ (gB t i < gA t i ∨ gA t i ≤ last ∨ 1114111 < gB t i ∨ n ≤ gG t i + gB t i - gA t i) := fun h => by rcases h with h | h | h | h <;> contradiction
              rw [wrap64_small (x := i + 1) (by omega) (by omega)]
              exact ih (i + 1) (gB t i) (by omega) (by omega) (fun hr => hE ⟨hnb, hr⟩) (fun hr => hB (fun hh => hr hh.2))
/-- what a map says in the end, as the reference tells it -/
def refOf (p : Bool × List S47) : List S47 × Bool := if p.1 = true ∧ p.2.length ≤ 4096 then (p.2, true) else ([], false)
theorem twelve_no (t : ByteArray) (n m : Int) (k : Nat) : colophonref11_twelve.j0 (k + 1) t n m true = some ([], false) := by
  simp only [colophonref11_twelve.j0, if_true]
theorem twelve_ev (t : ByteArray) (n : Int) (hs : t.size ≤ 140737488351232) (hn : n ≤ 4096) : Ev (fun k => colophonref11_twelve.f k t n) (refOf (groupsS t n [])) := by
  have hs' : t.size ≤ 9223372036854775807 := by omega
  have hbm := u4_bd t 12
  have hno : ∀ {xs : List S47}, refOf (false, xs) = ([], false) := fun {xs} => by unfold refOf; rw [if_neg (fun hh => by simpa using hh.1)]
  unfold groupsS
  by_cases h : (t.size : Int) < 16
  · rw [if_pos h, hno]
    refine ⟨1, fun k hk => ?_⟩
    obtain ⟨j, rfl⟩ : ∃ j, k = j + 1 := ⟨k - 1, by omega⟩
    show colophonref11_twelve.f (j + 1) t n = _
    unfold colophonref11_twelve.f
    rw [U4_f t 12 hs' (by omega) (by omega)]
    simp only [Option.bind_some]
    rw [if_pos h, twelve_no]
  · rw [if_neg h]
    have e12 : u4 t 12 = fo t 12 := u4_in (by omega) (by omega)
    have e4 : u4 t 4 = fo t 4 := u4_in (by omega) (by omega)
    have hstart : ∀ k, colophonref11_twelve.f k t n = (if (t.extract 0 4).toList = ([0, 12, 0, 0] : List UInt8) then (if fo t 12 > 4096 then (colophonref11_twelve.j0 k t n (fo t 12) true) else (if fo t 4 = 16 + 12 * fo t 12 then (colophonref11_twelve.j0 k t n (fo t 12) (decide ((t.size : Int) < 16 + 12 * fo t 12))) else (colophonref11_twelve.j0 k t n (fo t 12) true))) else (colophonref11_twelve.j0 k t n (fo t 12) true)) := by
      intro k
      unfold colophonref11_twelve.f
      rw [U4_f t 12 hs' (by omega) (by omega), U4_f t 4 hs' (by omega) (by omega), e12, e4]
      simp only [Option.bind_some]
      rw [e12] at hbm
      rw [if_neg h, if_pos (by omega), if_pos (by omega), wrap64_small (x := 12 * fo t 12) (by omega) (by omega), wrap64_small (x := 16 + 12 * fo t 12) (by omega) (by omega)]
    refine Ev.congr hstart ?_
    by_cases h2 : fo t 0 = 786432
    · rw [if_neg (fun hh => hh h2)]
      simp only [if_pos ((fo_0 t 0 (by omega)).1 h2)]
      by_cases h3 : 4096 < fo t 12
      · rw [if_pos h3, hno]
        simp only [if_pos (show fo t 12 > 4096 from h3)]
        exact Ev.step (f := fun _ => some ([], false)) (fun k => twelve_no _ _ _ _) (Ev.now _)
      · rw [if_neg h3]
        simp only [if_neg (show ¬ fo t 12 > 4096 from h3)]
        by_cases h4 : fo t 4 = 16 + 12 * fo t 12
        · rw [if_neg (fun hh => hh h4)]
          simp only [if_pos h4]
          by_cases h5 : (t.size : Int) < 16 + 12 * fo t 12
          · rw [if_pos h5, hno, decide_eq_true h5]
            exact Ev.step (f := fun _ => some ([], false)) (fun k => twelve_no _ _ _ _) (Ev.now _)
          · rw [if_neg h5, decide_eq_false h5]
            have bm := fo_bd t 12
            refine Ev.step (f := fun k => colophonref11_twelve.l0 k t n (fo t 12) (-1) 0) (fun k => ?_) ?_
            · simp only [colophonref11_twelve.j0]; rw [if_neg (by decide)]
            · refine twelve_l0 t n (fo t 12) hs' (by omega) (by omega) _ (fo t 12).toNat 0 (-1) (by omega) (by omega) ?_ ?_
              · intro hr
                rw [groupsL_ok _ _ _ _ hr]
                have hrow := rowsOk_at _ _ _ hr
                have := twelve_l1 t n (fo t 12) hs' (by omega) (by omega) hn (fun j h0 h1 => hrow j h0 (by omega)) (fo t 12).toNat 0 [] (by omega) (by omega) (fun x hx => by simp at hx) (by simp)
                unfold refOf
                simpa only [true_and] using this
              · intro hr
                have := groupsL_no _ _ _ ([] : List S47) hr
                unfold refOf
                rw [if_neg (fun hh => by rw [this] at hh; simp at hh)]
        · rw [if_pos h4, hno]
          simp only [if_neg h4]
          exact Ev.step (f := fun _ => some ([], false)) (fun k => twelve_no _ _ _ _) (Ev.now _)
    · rw [if_pos h2, hno]
      simp only [if_neg (fun hh => h2 ((fo_0 t 0 (by omega)).2 hh))]
      exact Ev.step (f := fun _ => some ([], false)) (fun k => twelve_no _ _ _ _) (Ev.now _)

end Go.Proofs.Ytldcgkkbmnahiaa.Px
