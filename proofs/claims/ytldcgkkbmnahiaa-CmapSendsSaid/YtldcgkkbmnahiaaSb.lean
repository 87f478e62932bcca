/- A code's glyph in a list of spans. -/
import Derived.Test.YtldcgkkbmnahiaaSa
namespace Go.Proofs.Ytldcgkkbmnahiaa.Px
set_option linter.unusedSimpArgs false
set_option linter.unusedVariables false
open Go.RowKit Go.Proofs.YtldcgkkbmnahiaaW.PrintWords Go.Proofs.YtldcgkkbmnahiaaW.PrintLast Go.Proofs.YtldcgkkbmnahiaaW.PrintMore

theorem rd_T47_mem {xs : List S47} {i : Int} (h0 : 0 ≤ i) (h1 : i < xs.length) : rd_T47 xs i ∈ xs := by
  unfold rd_T47
  rw [List.getD_eq_getElem?_getD, List.getElem?_eq_getElem (by omega)]
  exact List.getElem_mem _
theorem u64w (x : Int) : IntKind.u64.wrap x = x % 18446744073709551616 := by rw [IntKind.wrap_u64]
/-- the glyph so far behind another one -/
def shownS (g far : Int) : Int :=
  if g < 0 then (if far > -g ∧ far + g < 4096 then far + g else 0)
  else if g + far < 4096 then g + far else 0
def i64in (x : Int) : Prop := -9223372036854775808 ≤ x ∧ x ≤ 9223372036854775807
theorem wf_in {x : Int} (h : (Lit.int .i64 x).wf = true) : i64in x := by
  simp [Lit.wf, IntKind.min, IntKind.max, IntKind.bits, IntKind.signed] at h
  unfold i64in
  omega
theorem shown_ev (g far : Int) (hg : i64in g) (h0 : 0 ≤ far) (h1 : far < 18446744073709551616) : Ev (fun k => cmap_shown.f k g far) (shownS g far) := by
  unfold i64in at hg
  refine ⟨1, fun k hk => ?_⟩
  obtain ⟨m, rfl⟩ : ∃ m, k = m + 1 := ⟨k - 1, by omega⟩
  show cmap_shown.f (m + 1) g far = _
  unfold cmap_shown.f shownS
  by_cases h : g < 0
  · rw [if_pos h, if_pos h]
    have eb : IntKind.u64.wrap (-(IntKind.u64.wrap g)) = -g := by rw [u64w, u64w]; omega
    rw [eb]
    by_cases h2 : far > -g
    · rw [if_pos h2]
      have ef : IntKind.u64.wrap (far - -g) = far + g := by rw [u64w]; omega
      rw [ef]
      simp only [cmap_shown.j0]
      rw [ef]
      by_cases h3 : far + g < 4096
      · rw [decide_eq_true h3, if_pos rfl, if_pos ⟨h2, h3⟩, wrap64_small (by omega) (by omega)]
      · rw [decide_eq_false h3, if_neg (by decide), if_neg (fun hh => h3 hh.2)]
    · rw [if_neg h2, if_neg (fun hh => h2 hh.1)]
      simp only [cmap_shown.j0]
      rw [if_neg (by decide)]
  · rw [if_neg h, if_neg h]
    by_cases h2 : g ≥ 4096
    · rw [if_pos h2, if_neg (by omega)]
    · rw [if_neg h2]
      have eb : IntKind.u64.wrap (wrap64 (4096 - g)) = 4096 - g := by rw [wrap64_small (x := 4096 - g) (by omega) (by omega), u64w]; omega
      rw [eb]
      by_cases h3 : far ≥ 4096 - g
      · rw [if_pos h3, if_neg (by omega)]
      · rw [if_neg h3, if_pos (by omega), wrap64_small (x := far) (by omega) (by omega), wrap64_small (by omega) (by omega)]
/-- a code's glyph -/
def findS (l : List S47) (c : Int) : Nat → Int → Int
  | 0, _ => 0
  | r + 1, i => if (rd_T47 l i).f0 ≤ c ∧ c ≤ (rd_T47 l i).f1 then shownS (rd_T47 l i).f2 (c - (rd_T47 l i).f0) else findS l c r (i + 1)
def Wf47 (x : S47) : Prop := i64in x.f0 ∧ i64in x.f1 ∧ i64in x.f2
theorem far_eq {a c : Int} (ha : i64in a) (hc : i64in c) (h : a ≤ c) : IntKind.u64.wrap ((IntKind.u64.wrap c) - (IntKind.u64.wrap a)) = c - a ∧ 0 ≤ c - a ∧ c - a < 18446744073709551616 := by
  unfold i64in at ha hc
  rw [u64w, u64w, u64w]
  omega
theorem Find_ev (l : List S47) (c : Int) (hl : l.length ≤ 100000) (hw : ∀ x ∈ l, Wf47 x) (hc : i64in c) : ∀ (r : Nat) (i : Int), 0 ≤ i → i + r = l.length → Ev (fun k => cmap_Find.l0 k c l (l.length : Int) i) (findS l c r i) := by
  intro r
  induction r with
  | zero =>
    intro i h0 h1
    refine Ev.step (f := fun _ => some 0) (fun k => ?_) (Ev.now _)
    rw [cmap_Find.l0, if_neg (by omega)]
  | succ r ih =>
    intro i h0 h1
    have hx := hw _ (rd_T47_mem (xs := l) (i := i) h0 (by omega))
    have hn := ih (i + 1) (by omega) (by omega)
    have ei : wrap64 (i + 1) = i + 1 := wrap64_small (by omega) (by omega)
    simp only [findS]
    by_cases h2 : (rd_T47 l i).f0 ≤ c
    · by_cases h3 : c ≤ (rd_T47 l i).f1
      · rw [if_pos ⟨h2, h3⟩]
        obtain ⟨e, b0, b1⟩ := far_eq hx.1 hc h2
        refine Ev.step (f := fun k => (cmap_shown.f k (rd_T47 l i).f2 (c - (rd_T47 l i).f0)).bind fun t => some t) (fun k => ?_) (Ev.bind (shown_ev _ _ hx.2.2 b0 b1) (Ev.now _))
        rw [cmap_Find.l0, if_pos (by omega), if_pos h0, if_pos (by omega), if_pos h2, if_pos h3, e]
      · rw [if_neg (fun hh => h3 hh.2)]
        refine Ev.step (fun k => ?_) hn
        rw [cmap_Find.l0, if_pos (by omega), if_pos h0, if_pos (by omega), if_pos h2, if_neg h3, ei]
    · rw [if_neg (fun hh => h2 hh.1)]
      refine Ev.step (fun k => ?_) hn
      rw [cmap_Find.l0, if_pos (by omega), if_pos h0, if_pos (by omega), if_neg h2, ei]

end Go.Proofs.Ytldcgkkbmnahiaa.Px
