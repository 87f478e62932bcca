/- FixedWhole: shares add up to the total, and each is less than one off, of parts and totals up to a million. No condition beyond the statement's own. -/
import Derived.Test.YtamfhlafhkgapaaFk
import Derived.Test.YtamfhlafhkgapaaPxx9
namespace Go.Proofs.Ytamfhlafhkgapaa.Pure
set_option linter.unusedSimpArgs false
set_option linter.unusedVariables false
open Go.RowKit Go.Proofs.Ytamfhlafhkgapaa.Px Go.Proofs.YtamfhlafhkgapaaW.PrintWords Go.Proofs.YtamfhlafhkgapaaW.PrintLast Go.Proofs.YtamfhlafhkgapaaW.PrintMore

theorem sumS_of {l : List Int} (h : ∀ p ∈ l, 0 ≤ p ∧ p ≤ 1000000) (hl : l.length ≤ 100) : 0 ≤ l.sum ∧ l.sum ≤ 100000000 ∧ sumS l = (l.sum, true) := by
  have hb : ∀ (t : List Int), (∀ p ∈ t, 0 ≤ p ∧ p ≤ 1000000) → 0 ≤ t.sum ∧ t.sum ≤ t.length * 1000000 := by
    intro t
    induction t with
    | nil => intro _; simp
    | cons x t ih =>
      intro h
      have h1 := h x (by simp)
      have h2 := ih (fun p hp => h p (by simp [hp]))
      rw [List.sum_cons]; simp only [List.length_cons]; omega
  have h1 := hb l h
  have h2 : l.all inn = true := by
    rw [List.all_eq_true]; intro p hp; rw [inn_iff]; have := h p hp; omega
  refine ⟨h1.1, by omega, ?_⟩
  unfold sumS
  rw [if_pos h2]
  have hi : inn l.sum = true := by rw [inn_iff]; omega
  simp [keep, hi]
theorem mul_bnd {a b A B : Int} (ha : -A ≤ a) (ha' : a ≤ A) (hb : 0 ≤ b) (hb' : b ≤ B) (hA : 0 ≤ A) : -(A * B) ≤ a * b ∧ a * b ≤ A * B := by
  have h1 : a * b ≤ A * b := Int.mul_le_mul_of_nonneg_right ha' hb
  have h2 : A * b ≤ A * B := Int.mul_le_mul_of_nonneg_left hb' hA
  have h3 : -A * b ≤ a * b := Int.mul_le_mul_of_nonneg_right ha hb
  rw [Int.neg_mul] at h3
  omega
/-- the shares so far are the total's part so far, rounded down -/
theorem floor_at {total T u : Int} (hT : 0 < T) (h0 : -1000000 ≤ total) (h1 : total ≤ 1000000) (hu0 : 0 ≤ u) (hu : u ≤ T) (hT1 : T ≤ 100000000) : (floorS total u T).1 = total * u / T ∧ -1000000 ≤ total * u / T ∧ total * u / T ≤ 1000000 ∧ total * u / T * T ≤ total * u ∧ total * u < total * u / T * T + T := by
  have hm := mul_bnd h0 h1 hu0 hu (by omega)
  have hd := Int.mul_ediv_add_emod (total * u) T
  have hr0 := Int.emod_nonneg (total * u) (by omega : T ≠ 0)
  have hr1 := Int.emod_lt_of_pos (total * u) hT
  have hq1 : -1000000 ≤ total * u / T := by rw [Int.le_ediv_iff_mul_le hT]; rw [Int.neg_mul]; exact hm.1
  have hq2 : total * u / T ≤ 1000000 := by
    have : total * u / T < 1000001 := by rw [Int.ediv_lt_iff_lt_mul hT]; omega
    omega
  have hc := Int.mul_comm T (total * u / T)
  refine ⟨?_, hq1, hq2, by omega, by omega⟩
  unfold floorS
  rw [if_neg (by omega)]
  have hi : inn (total * u / T) = true := by rw [inn_iff]; omega
  simp [keep, hi]
theorem shareL_len (total T : Int) : ∀ (t : List Int) (u g : Int), (shareL total T u g t).length = t.length := by
  intro t
  induction t with
  | nil => intro u g; rfl
  | cons x t ih => intro u g; simp [shareL, ih]
theorem whole_l1 (total T : Int) (m xs : List Int) (hT : 0 < T) (h0 : -1000000 ≤ total) (h1 : total ≤ 1000000) (hT1 : T ≤ 100000000) (hm : m.length ≤ 100) (hp : ∀ p ∈ m, 0 ≤ p ∧ p ≤ 1000000) (hxs : xs.length = m.length) : ∀ (t : List Int) (n : Nat) (u : Int), m.drop n = t → n ≤ m.length → 0 ≤ u → u + t.sum = T → (∀ p ∈ t, 0 ≤ p) → xs.drop n = shareL total T u (total * u / T) t →
    Ev (fun k => colophonlaw01_FixedWhole.l1 k total m T xs true (total * u / T) n) true := by
  intro t
  induction t with
  | nil =>
    intro n u h hnl hu0 hu hpos hx
    have hn := drop_nil h
    refine Ev.step (f := fun _ => some true) (fun k => ?_) (Ev.now _)
    rw [colophonlaw01_FixedWhole.l1, if_neg (by omega)]
    simp only [List.sum_nil, Int.add_zero] at hu
    rw [hu, Int.mul_ediv_cancel _ (by omega : T ≠ 0)]
    simp [wakes_f]
  | cons x t ih =>
    intro n u h hnl hu0 hu hpos hx
    obtain ⟨hn, hxe, ht'⟩ := drop_cons h
    have hd : rd m (n : Int) = x := by rw [rd_at hn, hxe]
    have hx0 := hp x (by rw [← hxe]; exact List.getElem_mem hn)
    have hts : 0 ≤ t.sum := by
      have : ∀ (l : List Int), (∀ p ∈ l, 0 ≤ p) → 0 ≤ l.sum := by
        intro l
        induction l with
        | nil => intro _; simp
        | cons y l ihl => intro hl; rw [List.sum_cons]; have a1 := hl y (by simp); have a2 := ihl (fun p hp' => hl p (by simp [hp'])); omega
      exact this t (fun p hp' => hpos p (by simp [hp']))
    rw [List.sum_cons] at hu
    simp only [shareL] at hx
    obtain ⟨hnx, hxv, hxt⟩ := drop_cons hx
    have hdx : rd xs (n : Int) = (floorS total (u + x) T).1 - total * u / T := by rw [rd_at hnx, hxv]
    have fa := floor_at hT h0 h1 hu0 (by omega) hT1
    have fb := floor_at hT h0 h1 (show 0 ≤ u + x by omega) (by omega) hT1
    have h2 := ih (n + 1) (u + x) ht' (by omega) (by omega) (by omega) (fun p hp' => hpos p (by simp [hp'])) (by rw [hxt, fb.1])
    rw [fb.1] at hdx
    have hmul := Int.mul_add total u x
    have hsub := Int.sub_mul (total * (u + x) / T) (total * u / T) T
    have hb1 := mul_bnd h0 h1 hx0.1 hx0.2 (by omega)
    generalize total * (u + x) / T = q2 at *
    generalize total * u / T = q1 at *
    obtain ⟨K, h2⟩ := h2
    refine ⟨K + 1, fun k hk => ?_⟩
    obtain ⟨j, rfl⟩ : ∃ j, k = j + 1 := ⟨k - 1, by omega⟩
    have h2 := h2 j (by omega)
    simp only at h2
    show colophonlaw01_FixedWhole.l1 (j + 1) total m T xs true q1 n = _
    have hb3 := mul_bnd (A := 2000000) (B := 100000000) (show -2000000 ≤ q2 - q1 by omega) (by omega) (show 0 ≤ T by omega) hT1 (by omega)
    rw [colophonlaw01_FixedWhole.l1, if_pos (by omega), if_pos (by omega), if_pos (by omega), hd, hdx]
    generalize total * (u + x) = P2 at *
    generalize total * u = P1 at *
    generalize total * x = P3 at *
    generalize (q2 - q1) * T = P4 at *
    rw [wrap64_small (x := P4) (by omega) (by omega), wrap64_small (x := P3) (by omega) (by omega), wrap64_small (x := P4 - P3) (by omega) (by omega), wrap64_small (x := -T) (by omega) (by omega)]
    rw [if_neg (by omega), if_neg (by omega), wrap64_small (x := q1 + (q2 - q1)) (by omega) (by omega), wrap64_small (x := (n : Int) + 1) (by omega) (by omega)]
    rw [show q1 + (q2 - q1) = q2 from by omega, show (n : Int) + 1 = ((n + 1 : Nat) : Int) from by omega]
    exact h2
theorem whole_end (total : Int) (m : List Int) (hm : m.length ≤ 100) (hp : ∀ p ∈ m, 0 ≤ p ∧ p ≤ 1000000) (h0 : -1000000 ≤ total) (h1 : total ≤ 1000000) : Ev (fun k => colophonlaw01_FixedWhole.j1 k total m m.sum false) true := by
  have hs := sumS_of hp hm
  have hsh := Share_ev total m (by unfold i64ok; omega) (by omega)
  have hI : colophonkeep_Ints.f m 100 = some m := by
    have := Ints_f m 100 (by omega)
    rw [List.take_of_length_le hm] at this
    exact this
  have hval : shareS total m = if m.sum > 0 then (shareL total m.sum 0 0 m, true) else ([], false) := by
    unfold shareS
    rw [hs.2.2]
    by_cases c : m.sum > 0
    · rw [if_pos c, if_pos]
      refine ⟨rfl, by simp only; omega, by rw [inn_iff]; omega, ?_⟩
      rw [List.all_eq_true]; intro p hp'; have := hp p hp'; simp; omega
    · rw [if_neg c, if_neg]
      intro hh; have := hh.2.1; simp only at this; omega
  by_cases c : m.sum > 0
  · rw [if_pos c] at hval
    rw [hval] at hsh
    have hl1 := whole_l1 total m.sum m (shareL total m.sum 0 0 m) c h0 h1 hs.2.1 hm hp (shareL_len _ _ _ _ _) m 0 0 rfl (by omega) (by omega) (by omega) (fun p hp' => (hp p hp').1) (by simp)
    simp only [Int.mul_zero, Int.zero_ediv] at hl1
    obtain ⟨K1, hsh⟩ := hsh
    obtain ⟨K2, hl1⟩ := hl1
    refine ⟨max K1 K2 + 2, fun k hk => ?_⟩
    obtain ⟨j, rfl⟩ : ∃ j, k = j + 2 := ⟨k - 2, by omega⟩
    have hsh := hsh (j + 1) (by omega)
    have hl1 := hl1 j (by omega)
    simp only at hsh hl1
    show colophonlaw01_FixedWhole.j1 (j + 1 + 1) total m m.sum false = _
    rw [colophonlaw01_FixedWhole.j1]
    simp only [Bool.false_eq_true, if_false, hI, Option.bind_some, hsh]
    have e1 : (true != decide (m.sum > 0)) = false := by simp [c]
    have e2 : (((shareL total m.sum 0 0 m).length : Int) != (m.length : Int)) = false := by rw [shareL_len]; simp
    rw [e1, e2]
    simp only [Bool.false_eq_true, if_false, if_true]
    rw [colophonlaw01_FixedWhole.j2]
    simp only [Bool.false_eq_true, if_false]
    exact hl1
  · rw [if_neg c] at hval
    rw [hval] at hsh
    obtain ⟨K1, hsh⟩ := hsh
    refine ⟨K1 + 3, fun k hk => ?_⟩
    obtain ⟨j, rfl⟩ : ∃ j, k = j + 3 := ⟨k - 3, by omega⟩
    have hsh := hsh (j + 2) (by omega)
    simp only at hsh
    show colophonlaw01_FixedWhole.j1 (j + 2 + 1) total m m.sum false = _
    rw [colophonlaw01_FixedWhole.j1]
    simp only [Bool.false_eq_true, if_false, hI, Option.bind_some, hsh]
    have e1 : (false != decide (m.sum > 0)) = false := by simp [c]
    rw [e1]
    simp only [Bool.false_eq_true, if_false]
    rw [colophonlaw01_FixedWhole.j2]
    simp only [Bool.false_eq_true, if_false]
    rw [colophonlaw01_FixedWhole.l1]
    simp [wakes_f]
theorem whole_l0 (total : Int) (m : List Int) (hm : m.length ≤ 100) : ∀ (t : List Int) (n : Nat) (s : Int), m.drop n = t → n ≤ m.length → s + t.sum = m.sum → (∀ p ∈ m.take n, 0 ≤ p ∧ p ≤ 1000000) → 0 ≤ s → s ≤ n * 1000000 →
    Ev (fun k => colophonlaw01_FixedWhole.l0 k total m s n) true := by
  intro t
  induction t with
  | nil =>
    intro n s h hnl hs hp s0 s1
    have hn := drop_nil h
    rw [List.take_of_length_le hn] at hp
    simp only [List.sum_nil, Int.add_zero] at hs
    subst hs
    have hj : Ev (fun k => colophonlaw01_FixedWhole.j1 k total m m.sum true) true := by
      refine Ev.step (f := fun _ => some true) (fun k => ?_) (Ev.now _)
      rw [colophonlaw01_FixedWhole.j1]; simp [wakes_f]
    refine Ev.step (f := fun k => if total < -1000000 then colophonlaw01_FixedWhole.j1 k total m m.sum true else colophonlaw01_FixedWhole.j1 k total m m.sum (decide (total > 1000000))) (fun k => ?_) ?_
    · rw [colophonlaw01_FixedWhole.l0, if_neg (by omega)]
    · by_cases c1 : total < -1000000
      · simp only [if_pos c1]; exact hj
      · simp only [if_neg c1]
        by_cases c2 : total > 1000000
        · simp only [c2, decide_true]; exact hj
        · simp only [c2, decide_false]
          exact whole_end total m hm hp (by omega) (by omega)
  | cons x t ih =>
    intro n s h hnl hs hp s0 s1
    obtain ⟨hn, hxe, ht'⟩ := drop_cons h
    have hd : rd m (n : Int) = x := by rw [rd_at hn, hxe]
    rw [List.sum_cons] at hs
    refine Ev.step (f := fun k => if x < 0 then some true else if x > 1000000 then some true else colophonlaw01_FixedWhole.l0 k total m (wrap64 (s + x)) (wrap64 ((n : Int) + 1))) (fun k => ?_) ?_
    · rw [colophonlaw01_FixedWhole.l0, if_pos (by omega), if_pos (by omega), hd]; simp [wakes_f]
    · by_cases c1 : x < 0
      · simp only [if_pos c1]; exact Ev.now _
      · by_cases c2 : x > 1000000
        · simp only [if_neg c1, if_pos c2]; exact Ev.now _
        · simp only [if_neg c1, if_neg c2]
          rw [wrap64_small (x := s + x) (by omega) (by omega), wrap64_small (x := (n : Int) + 1) (by omega) (by omega)]
          refine ih (n + 1) (s + x) ht' (by omega) (by omega) ?_ (by omega) (by omega)
          intro p hp'
          rw [List.take_succ_eq_append_getElem hn, List.mem_append, List.mem_singleton, hxe] at hp'
          rcases hp' with hp' | rfl
          · exact hp p hp'
          · omega
theorem FixedWhole : colophonlaw01_FixedWhole.Pure := by
  intro total l _ hm hb _
  refine Ev.rounds (g := fun k => colophonlaw01_FixedWhole.f k total l) ?_
  have hI : colophonkeep_Ints.f l 100 = some (l.take 100) := Ints_f l 100 (by omega)
  unfold colophonlaw01_FixedWhole.f
  simp only [hI, Option.bind_some]
  exact whole_l0 total (l.take 100) (by rw [List.length_take]; omega) (l.take 100) 0 0 rfl (by omega) (by omega) (by simp) (by omega) (by omega)

end Go.Proofs.Ytamfhlafhkgapaa.Pure
