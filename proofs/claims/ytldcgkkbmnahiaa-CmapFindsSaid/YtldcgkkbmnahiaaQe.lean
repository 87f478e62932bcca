/- finding and judging -/
import Derived.Test.YtldcgkkbmnahiaaQa
import Derived.Test.YtldcgkkbmnahiaaPxx4
import Derived.Test.YtldcgkkbmnahiaaPxx5
import Derived.Test.YtldcgkkbmnahiaaPxx13
import Derived.Test.YtldcgkkbmnahiaaPxx14
namespace Go.Proofs.Ytldcgkkbmnahiaa.Px
set_option linter.unusedSimpArgs false
set_option linter.unusedVariables false
open Go.RowKit Go.Proofs.YtldcgkkbmnahiaaW.PrintWords Go.Proofs.YtldcgkkbmnahiaaW.PrintLast Go.Proofs.YtldcgkkbmnahiaaW.PrintMore

theorem u64w (x : Int) : IntKind.u64.wrap x = x % 18446744073709551616 := by rw [IntKind.wrap_u64]
/-- the glyph so far behind another one -/
def shownS (g far : Int) : Int :=
  if g < 0 then (if far > -g ∧ far + g < 4096 then far + g else 0)
  else if g + far < 4096 then g + far else 0
def i64in (x : Int) : Prop := -9223372036854775808 ≤ x ∧ x ≤ 9223372036854775807
theorem wf_in {x : Int} (h : (Lit.int .i64 x).wf = true) : i64in x := by
  simp [Lit.wf, IntKind.min, IntKind.max, IntKind.bits, IntKind.signed] at h
  unfold i64in
  omega
theorem shown_ev (g far : Int) (hg : i64in g) (h0 : 0 ≤ far) (h1 : far < 18446744073709551616) : Ev (fun k => cmap_shown.f k g far) (shownS g far) := by
  unfold i64in at hg
  refine ⟨1, fun k hk => ?_⟩
  obtain ⟨m, rfl⟩ : ∃ m, k = m + 1 := ⟨k - 1, by omega⟩
  show cmap_shown.f (m + 1) g far = _
  unfold cmap_shown.f shownS
  by_cases h : g < 0
  · rw [if_pos h, if_pos h]
    have eb : IntKind.u64.wrap (-(IntKind.u64.wrap g)) = -g := by rw [u64w, u64w]; omega
    rw [eb]
    by_cases h2 : far > -g
    · rw [if_pos h2]
      have ef : IntKind.u64.wrap (far - -g) = far + g := by rw [u64w]; omega
      rw [ef]
      simp only [cmap_shown.j0]
      rw [ef]
      by_cases h3 : far + g < 4096
      · rw [decide_eq_true h3, if_pos rfl, if_pos ⟨h2, h3⟩, wrap64_small (by omega) (by omega)]
      · rw [decide_eq_false h3, if_neg (by decide), if_neg (fun hh => h3 hh.2)]
    · rw [if_neg h2, if_neg (fun hh => h2 hh.1)]
      simp only [cmap_shown.j0]
      rw [if_neg (by decide)]
  · rw [if_neg h, if_neg h]
    by_cases h2 : g ≥ 4096
    · rw [if_pos h2, if_neg (by omega)]
    · rw [if_neg h2]
      have eb : IntKind.u64.wrap (wrap64 (4096 - g)) = 4096 - g := by rw [wrap64_small (x := 4096 - g) (by omega) (by omega), u64w]; omega
      rw [eb]
      by_cases h3 : far ≥ 4096 - g
      · rw [if_pos h3, if_neg (by omega)]
      · rw [if_neg h3, if_pos (by omega), wrap64_small (x := far) (by omega) (by omega), wrap64_small (by omega) (by omega)]
/-- a code's glyph -/
def findS (l : List S47) (c : Int) : Nat → Int → Int
  | 0, _ => 0
  | r + 1, i => if (rd_T47 l i).f0 ≤ c ∧ c ≤ (rd_T47 l i).f1 then shownS (rd_T47 l i).f2 (c - (rd_T47 l i).f0) else findS l c r (i + 1)
def Wf47 (x : S47) : Prop := i64in x.f0 ∧ i64in x.f1 ∧ i64in x.f2
theorem far_eq {a c : Int} (ha : i64in a) (hc : i64in c) (h : a ≤ c) : IntKind.u64.wrap ((IntKind.u64.wrap c) - (IntKind.u64.wrap a)) = c - a ∧ 0 ≤ c - a ∧ c - a < 18446744073709551616 := by
  unfold i64in at ha hc
  rw [u64w, u64w, u64w]
  omega
theorem Find_ev (l : List S47) (c : Int) (hl : l.length ≤ 100000) (hw : ∀ x ∈ l, Wf47 x) (hc : i64in c) : ∀ (r : Nat) (i : Int), 0 ≤ i → i + r = l.length → Ev (fun k => cmap_Find.l0 k c l (l.length : Int) i) (findS l c r i) := by
  intro r
  induction r with
  | zero =>
    intro i h0 h1
    refine Ev.step (f := fun _ => some 0) (fun k => ?_) (Ev.now _)
    rw [cmap_Find.l0, if_neg (by omega)]
  | succ r ih =>
    intro i h0 h1
    have hx := hw _ (rd_T47_mem (xs := l) (i := i) h0 (by omega))
    have hn := ih (i + 1) (by omega) (by omega)
    have ei : wrap64 (i + 1) = i + 1 := wrap64_small (by omega) (by omega)
    simp only [findS]
    by_cases h2 : (rd_T47 l i).f0 ≤ c
    · by_cases h3 : c ≤ (rd_T47 l i).f1
      · rw [if_pos ⟨h2, h3⟩]
        obtain ⟨e, b0, b1⟩ := far_eq hx.1 hc h2
        refine Ev.step (f := fun k => (cmap_shown.f k (rd_T47 l i).f2 (c - (rd_T47 l i).f0)).bind fun t => some t) (fun k => ?_) (Ev.bind (shown_ev _ _ hx.2.2 b0 b1) (Ev.now _))
        rw [cmap_Find.l0, if_pos (by omega), if_pos h0, if_pos (by omega), if_pos h2, if_pos h3, e]
      · rw [if_neg (fun hh => h3 hh.2)]
        refine Ev.step (fun k => ?_) hn
        rw [cmap_Find.l0, if_pos (by omega), if_pos h0, if_pos (by omega), if_pos h2, if_neg h3, ei]
    · rw [if_neg (fun hh => h2 hh.1)]
      refine Ev.step (fun k => ?_) hn
      rw [cmap_Find.l0, if_pos (by omega), if_pos h0, if_pos (by omega), if_neg h2, ei]
theorem refFind_ev (l : List S47) (c : Int) (hl : l.length ≤ 100000) (hw : ∀ x ∈ l, Wf47 x) (hc : i64in c) : ∀ (r : Nat) (i : Int), 0 ≤ i → i + r = l.length → Ev (fun k => colophonref11_Find.l0 k l c i) (findS l c r i) := by
  intro r
  induction r with
  | zero =>
    intro i h0 h1
    refine Ev.step (f := fun _ => some 0) (fun k => ?_) (Ev.now _)
    rw [colophonref11_Find.l0, if_neg (by omega)]
  | succ r ih =>
    intro i h0 h1
    have hx := hw _ (rd_T47_mem (xs := l) (i := i) h0 (by omega))
    have hn := ih (i + 1) (by omega) (by omega)
    have ei : wrap64 (i + 1) = i + 1 := wrap64_small (by omega) (by omega)
    simp only [findS]
    generalize hX : rd_T47 l i = X at *
    refine Ev.step (f := fun k => colophonref11_Find.j1 k l c i (decide (X.f0 ≤ c ∧ c ≤ X.f1))) (fun k => ?_) ?_
    · rw [colophonref11_Find.l0, if_pos (by omega), if_pos h0, hX]
      by_cases h2 : X.f0 ≤ c
      · rw [if_pos h2]; congr 1; simp [h2]
      · rw [if_neg h2]; congr 1; simp [h2]
    · by_cases h4 : X.f0 ≤ c ∧ c ≤ X.f1
      · rw [if_pos h4, decide_eq_true h4]
        obtain ⟨e, b0, b1⟩ := far_eq hx.1 hc h4.1
        have hf2 := hx.2.2
        unfold i64in at hf2
        unfold shownS
        by_cases h5 : X.f2 > 4095
        · rw [if_neg (by omega), if_neg (by omega)]
          refine Ev.step (f := fun _ => some 0) (fun k => ?_) (Ev.now _)
          simp only [colophonref11_Find.j1]
          rw [if_pos trivial, if_pos h0, if_pos (by omega), hX, if_pos h5]
        · by_cases h6 : X.f2 < 0
          · have eb : IntKind.u64.wrap ((IntKind.u64.wrap (wrap64 (-(wrap64 (X.f2 + 1))))) + 1) = -X.f2 := by
              rw [wrap64_small (x := X.f2 + 1) (by omega) (by omega), wrap64_small (x := -(X.f2 + 1)) (by omega) (by omega), u64w, u64w]; omega
            have em : mx X.f2 0 = 0 := by unfold mx; rw [if_pos h6]
            rw [if_pos h6]
            refine Ev.step (f := fun k => colophonref11_Find.j2 k l i (c - X.f0) (-X.f2)) (fun k => ?_) ?_
            · simp only [colophonref11_Find.j1]
              rw [if_pos trivial, if_pos h0, if_pos (by omega), hX, if_neg h5, if_pos h6, e, eb]
            · by_cases h7 : c - X.f0 < -X.f2
              · rw [if_neg (by omega)]
                refine Ev.step (f := fun k => colophonref11_Find.j3 k l i (c - X.f0) (-X.f2) true) (fun k => ?_) ?_
                · simp only [colophonref11_Find.j2]; rw [if_pos h7]
                · refine Ev.step (f := fun _ => some 0) (fun k => ?_) (Ev.now _)
                  simp only [colophonref11_Find.j3, if_true]
              · have ed : IntKind.u64.wrap (c - X.f0 - -X.f2) = c - X.f0 + X.f2 := by rw [u64w]; omega
                refine Ev.step (f := fun k => colophonref11_Find.j3 k l i (c - X.f0) (-X.f2) (decide (c - X.f0 + X.f2 > 4095))) (fun k => ?_) ?_
                · simp only [colophonref11_Find.j2]; rw [if_neg h7, ed]
                · by_cases h8 : c - X.f0 + X.f2 > 4095
                  · rw [decide_eq_true h8, if_neg (by omega)]
                    refine Ev.step (f := fun _ => some 0) (fun k => ?_) (Ev.now _)
                    simp only [colophonref11_Find.j3, if_true]
                  · rw [decide_eq_false h8]
                    have e9 : wrap64 (wrap64 (c - X.f0 + X.f2) + 0) = c - X.f0 + X.f2 := by rw [wrap64_small (x := c - X.f0 + X.f2) (by omega) (by omega), wrap64_small (by omega) (by omega)]; omega
                    refine Ev.step (f := fun _ => some (if c - X.f0 > -X.f2 ∧ c - X.f0 + X.f2 < 4096 then c - X.f0 + X.f2 else 0)) (fun k => ?_) (Ev.now _)
                    simp only [colophonref11_Find.j3]
                    rw [if_neg (by decide), if_pos h0, if_pos (by omega), hX, ed, em, e9]
                    by_cases h10 : c - X.f0 + X.f2 < 1
                    · rw [if_pos h10, if_neg (by omega)]
                    · rw [if_neg h10, if_neg h8, if_pos (by omega)]
          · have em : mx X.f2 0 = X.f2 := by unfold mx; rw [if_neg h6]
            rw [if_neg h6]
            have ed : IntKind.u64.wrap (c - X.f0 - 0) = c - X.f0 := by rw [u64w]; omega
            refine Ev.step (f := fun k => colophonref11_Find.j2 k l i (c - X.f0) 0) (fun k => ?_) ?_
            · simp only [colophonref11_Find.j1]
              rw [if_pos trivial, if_pos h0, if_pos (by omega), hX, if_neg h5, if_neg h6, e]
            · refine Ev.step (f := fun k => colophonref11_Find.j3 k l i (c - X.f0) 0 (decide (c - X.f0 > 4095))) (fun k => ?_) ?_
              · simp only [colophonref11_Find.j2]; rw [if_neg (by omega), ed]
              · by_cases h8 : c - X.f0 > 4095
                · rw [decide_eq_true h8, if_neg (by omega)]
                  refine Ev.step (f := fun _ => some 0) (fun k => ?_) (Ev.now _)
                  simp only [colophonref11_Find.j3, if_true]
                · rw [decide_eq_false h8]
                  have e9 : wrap64 (wrap64 (c - X.f0) + X.f2) = X.f2 + (c - X.f0) := by rw [wrap64_small (x := c - X.f0) (by omega) (by omega), wrap64_small (by omega) (by omega)]; omega
                  refine Ev.step (f := fun _ => some (if X.f2 + (c - X.f0) < 4096 then X.f2 + (c - X.f0) else 0)) (fun k => ?_) (Ev.now _)
                  simp only [colophonref11_Find.j3]
                  rw [if_neg (by decide), if_pos h0, if_pos (by omega), hX, ed, em, e9]
                  by_cases h10 : X.f2 + (c - X.f0) < 1
                  · rw [if_pos h10, if_pos (by omega)]; congr 1; omega
                  · rw [if_neg h10]
                    by_cases h11 : X.f2 + (c - X.f0) > 4095
                    · rw [if_pos h11, if_neg (by omega)]
                    · rw [if_neg h11, if_pos (by omega)]
      · rw [if_neg h4, decide_eq_false h4]
        refine Ev.step (fun k => ?_) hn
        simp only [colophonref11_Find.j1]
        rw [if_neg (by decide), ei]
/-- a list is good -/
def gBad1 (x : S47) : Bool := decide (x.f0 < 0) || (decide (x.f1 < x.f0) || (decide (1114111 < x.f1) || (decide (x.f0 ≤ 57343) && decide (55296 ≤ x.f1))))
def gBad2 (x : S47) (n : Int) : Bool := decide (x.f2 < 1) || (decide (n ≤ x.f2) || decide (wrap64 (n - x.f2) ≤ wrap64 (x.f1 - x.f0)))
def pBad (y x : S47) : Bool := decide (x.f0 ≤ y.f1) || ((x.f0 == wrap64 (y.f1 + 1)) && (x.f2 == wrap64 (wrap64 (wrap64 (y.f2 + y.f1) - y.f0) + 1)))
def goodL (l : List S47) (n : Int) : Nat → Int → Bool
  | 0, _ => true
  | r + 1, i => if gBad1 (rd_T47 l i) = true then false else if gBad2 (rd_T47 l i) n = true then false else if 0 < i ∧ pBad (rd_T47 l (i - 1)) (rd_T47 l i) = true then false else goodL l n r (i + 1)
def goodS (l : List S47) (n : Int) : Bool := if 4096 < l.length then false else goodL l n l.length 0
theorem Good_l0 (l : List S47) (n : Int) (hl : l.length ≤ 100000) : ∀ (r : Nat) (i : Int), 0 ≤ i → i + r = l.length → Ev (fun k => cmap_Good.l0 k l n l (l.length : Int) i) (goodL l n r i) := by
  intro r
  induction r with
  | zero =>
    intro i h0 h1
    refine Ev.step (f := fun _ => some true) (fun k => ?_) (Ev.now _)
    rw [cmap_Good.l0, if_neg (by omega)]
  | succ r ih =>
    intro i h0 h1
    have hn := ih (i + 1) (by omega) (by omega)
    have ei : wrap64 (i + 1) = i + 1 := wrap64_small (by omega) (by omega)
    have ej : wrap64 (i - 1) = i - 1 := wrap64_small (by omega) (by omega)
    simp only [goodL]
    generalize hX : rd_T47 l i = X at *
    refine Ev.step (f := fun k => cmap_Good.j1 k l n i l (l.length : Int) i (gBad1 X) X.f0 X.f1 X.f2) (fun k => ?_) ?_
    · rw [cmap_Good.l0, if_pos (by omega), if_pos h0, if_pos (by omega), hX]
      unfold gBad1
      by_cases a1 : X.f0 < 0
      · rw [if_pos a1, decide_eq_true a1]; rfl
      · rw [if_neg a1, decide_eq_false a1]
        by_cases a2 : X.f1 < X.f0
        · rw [if_pos (show X.f0 > X.f1 from a2), decide_eq_true a2]; rfl
        · rw [if_neg (show ¬ X.f0 > X.f1 from a2), decide_eq_false a2]
          by_cases a3 : 1114111 < X.f1
          · rw [if_pos (show X.f1 > 1114111 from a3), decide_eq_true a3]; rfl
          · rw [if_neg (show ¬ X.f1 > 1114111 from a3), decide_eq_false a3]
            by_cases a4 : X.f0 ≤ 57343
            · rw [if_pos a4, decide_eq_true a4]; rfl
            · rw [if_neg a4, decide_eq_false a4]; rfl
    · cases hb : gBad1 X with
      | true =>
        rw [if_pos rfl]
        exact Ev.step (f := fun _ => some false) (fun k => by simp only [cmap_Good.j1, if_true]) (Ev.now _)
      | false =>
        rw [if_neg (by decide)]
        refine Ev.step (f := fun k => cmap_Good.j2 k l n i l (l.length : Int) i (gBad2 X n) X.f0 X.f1 X.f2) (fun k => ?_) ?_
        · simp only [cmap_Good.j1]
          rw [if_neg (by decide)]
          unfold gBad2
          by_cases a1 : X.f2 < 1
          · rw [if_pos a1, decide_eq_true a1]; rfl
          · rw [if_neg a1, decide_eq_false a1]
            by_cases a2 : n ≤ X.f2
            · rw [if_pos (show X.f2 ≥ n from a2), decide_eq_true a2]; rfl
            · rw [if_neg (show ¬ X.f2 ≥ n from a2), decide_eq_false a2]; rfl
        · cases hb2 : gBad2 X n with
          | true =>
            rw [if_pos rfl]
            exact Ev.step (f := fun _ => some false) (fun k => by simp only [cmap_Good.j2, if_true]) (Ev.now _)
          | false =>
            rw [if_neg (by decide)]
            by_cases hi : 0 < i
            · generalize hY : rd_T47 l (i - 1) = Y at *
              cases hp : pBad Y X with
              | true =>
                rw [if_pos ⟨hi, rfl⟩]
                refine Ev.step (f := fun _ => some false) (fun k => ?_) (Ev.now _)
                simp only [cmap_Good.j2]
                rw [if_neg (by decide), if_neg (by omega), ej, if_pos (by omega), if_pos (by omega), hY]
                unfold pBad at hp
                by_cases a1 : X.f0 ≤ Y.f1
                · rw [if_pos a1]
                · rw [if_neg a1]
                  rw [decide_eq_false a1, Bool.false_or, Bool.and_eq_true, beq_iff_eq, beq_iff_eq] at hp
                  rw [if_pos hp.1, if_pos hp.2]
              | false =>
                rw [if_neg (fun hh => by simpa using hh.2)]
                refine Ev.step (fun k => ?_) hn
                simp only [cmap_Good.j2]
                rw [if_neg (by decide), if_neg (by omega), ej, if_pos (by omega), if_pos (by omega), hY, ei]
                unfold pBad at hp
                rw [Bool.or_eq_false_iff] at hp
                rw [if_neg (of_decide_eq_false hp.1)]
                by_cases a2 : X.f0 = wrap64 (Y.f1 + 1)
                · rw [if_pos a2]
                  have hp2 := hp.2
                  rw [beq_iff_eq.2 a2, Bool.true_and, beq_eq_false_iff_ne] at hp2
                  rw [if_neg hp2]
                · rw [if_neg a2]
            · rw [if_neg (fun hh => hi hh.1)]
              refine Ev.step (fun k => ?_) hn
              simp only [cmap_Good.j2]
              rw [if_neg (by decide), if_pos (by omega), ei]
theorem Good_ev (l : List S47) (n : Int) (hl : l.length ≤ 100000) : Ev (fun k => cmap_Good.f k l n) (goodS l n) := by
  unfold goodS
  by_cases h : 4096 < l.length
  · rw [if_pos h]
    exact Ev.congr (fun k => by unfold cmap_Good.f; rw [if_pos (by omega)]) (Ev.now _)
  · rw [if_neg h]
    exact Ev.congr (fun k => by unfold cmap_Good.f; rw [if_neg (by omega)]) (Good_l0 l n hl l.length 0 (by omega) (by omega))
theorem refGood_l0 (l : List S47) (n : Int) (hl : l.length ≤ 100000) : ∀ (r : Nat) (i : Int), 0 ≤ i → i + r = l.length → Ev (fun k => colophonref11_Good.l0 k l n i) (goodL l n r i) := by
  intro r
  induction r with
  | zero =>
    intro i h0 h1
    refine Ev.step (f := fun _ => some true) (fun k => ?_) (Ev.now _)
    rw [colophonref11_Good.l0, if_neg (by omega)]
  | succ r ih =>
    intro i h0 h1
    have hn := ih (i + 1) (by omega) (by omega)
    have ei : wrap64 (i + 1) = i + 1 := wrap64_small (by omega) (by omega)
    have ej : wrap64 (i - 1) = i - 1 := wrap64_small (by omega) (by omega)
    simp only [goodL]
    generalize hX : rd_T47 l i = X at *
    refine Ev.step (f := fun k => colophonref11_Good.j1 k l n i (gBad1 X || gBad2 X n) X.f0 X.f1 X.f2) (fun k => ?_) ?_
    · rw [colophonref11_Good.l0, if_pos (by omega), if_pos h0, hX]
      unfold gBad1 gBad2
      by_cases a2 : X.f1 < X.f0
      · rw [if_pos (show X.f0 > X.f1 from a2), decide_eq_true a2]; simp
      · rw [if_neg (show ¬ X.f0 > X.f1 from a2), decide_eq_false a2]
        by_cases a1 : X.f0 < 0
        · rw [if_pos a1, decide_eq_true a1]; simp
        · rw [if_neg a1, decide_eq_false a1]
          by_cases a3 : 1114111 < X.f1
          · rw [if_pos (show X.f1 > 1114111 from a3), decide_eq_true a3]; simp
          · rw [if_neg (show ¬ X.f1 > 1114111 from a3), decide_eq_false a3]
            by_cases a5 : X.f2 < 1
            · rw [decide_eq_true a5]
              by_cases a4 : X.f0 ≤ 57343
              · rw [if_pos a4]
                by_cases a6 : X.f1 ≥ 55296
                · rw [if_pos a6]; simp
                · rw [if_neg a6, if_pos a5]; simp
              · rw [if_neg a4, if_pos a5]; simp
            · rw [decide_eq_false a5]
              by_cases a7 : n ≤ X.f2
              · rw [decide_eq_true a7]
                by_cases a4 : X.f0 ≤ 57343
                · rw [if_pos a4]
                  by_cases a6 : X.f1 ≥ 55296
                  · rw [if_pos a6]; simp
                  · rw [if_neg a6, if_neg a5, if_pos (show X.f2 ≥ n from a7)]; simp
                · rw [if_neg a4, if_neg a5, if_pos (show X.f2 ≥ n from a7)]; simp
              · rw [decide_eq_false a7]
                by_cases a4 : X.f0 ≤ 57343
                · rw [if_pos a4, decide_eq_true a4]
                  by_cases a6 : X.f1 ≥ 55296
                  · rw [if_pos a6, decide_eq_true (show 55296 ≤ X.f1 from a6)]; simp
                  · rw [if_neg a6, if_neg a5, if_neg (show ¬ X.f2 ≥ n from a7), decide_eq_false (show ¬ 55296 ≤ X.f1 from a6)]; simp
                · rw [if_neg a4, if_neg a5, if_neg (show ¬ X.f2 ≥ n from a7), decide_eq_false a4]; simp
    · cases hb : gBad1 X with
      | true =>
        rw [if_pos rfl]
        exact Ev.step (f := fun _ => some false) (fun k => by simp only [colophonref11_Good.j1, Bool.true_or, if_true]) (Ev.now _)
      | false =>
        rw [if_neg (by decide)]
        cases hb2 : gBad2 X n with
        | true =>
          rw [if_pos rfl]
          exact Ev.step (f := fun _ => some false) (fun k => by simp only [colophonref11_Good.j1, Bool.or_true, if_true]) (Ev.now _)
        | false =>
          rw [if_neg (by decide)]
          by_cases hi : 0 < i
          · generalize hY : rd_T47 l (i - 1) = Y at *
            cases hp : pBad Y X with
            | true =>
              rw [if_pos ⟨hi, rfl⟩]
              refine Ev.step (f := fun _ => some false) (fun k => ?_) (Ev.now _)
              simp only [colophonref11_Good.j1]
              rw [if_neg (by decide), if_pos (show i > 0 from hi), ej, if_pos (by omega), if_pos (by omega), hY]
              unfold pBad at hp
              by_cases a1 : X.f0 ≤ Y.f1
              · rw [if_pos a1]
              · rw [if_neg a1]
                rw [decide_eq_false a1, Bool.false_or, Bool.and_eq_true, beq_iff_eq, beq_iff_eq] at hp
                rw [if_pos hp.1, if_pos hp.2]
            | false =>
              rw [if_neg (fun hh => by simpa using hh.2)]
              refine Ev.step (fun k => ?_) hn
              simp only [colophonref11_Good.j1]
              rw [if_neg (by decide), if_pos (show i > 0 from hi), ej, if_pos (by omega), if_pos (by omega), hY, ei]
              unfold pBad at hp
              rw [Bool.or_eq_false_iff] at hp
              rw [if_neg (of_decide_eq_false hp.1)]
              by_cases a2 : X.f0 = wrap64 (Y.f1 + 1)
              · rw [if_pos a2]
                have hp2 := hp.2
                rw [beq_iff_eq.2 a2, Bool.true_and, beq_eq_false_iff_ne] at hp2
                rw [if_neg hp2]
              · rw [if_neg a2]
          · rw [if_neg (fun hh => hi hh.1)]
            refine Ev.step (fun k => ?_) hn
            simp only [colophonref11_Good.j1]
            rw [if_neg (by decide), if_neg (show ¬ i > 0 from hi), ei]
theorem refGood_ev (l : List S47) (n : Int) (hl : l.length ≤ 100000) : Ev (fun k => colophonref11_Good.f k l n) (goodS l n) := by
  unfold goodS
  by_cases h : 4096 < l.length
  · rw [if_pos h]
    exact Ev.congr (fun k => by unfold colophonref11_Good.f; rw [if_pos (by omega)]) (Ev.now _)
  · rw [if_neg h]
    exact Ev.congr (fun k => by unfold colophonref11_Good.f; rw [if_neg (by omega)]) (refGood_l0 l n hl l.length 0 (by omega) (by omega))

end Go.Proofs.Ytldcgkkbmnahiaa.Px
