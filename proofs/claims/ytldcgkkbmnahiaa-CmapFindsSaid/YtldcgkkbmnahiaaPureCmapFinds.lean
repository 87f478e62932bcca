/- CmapFinds: of any list of spans and any numbers the program finds and judges as the document's answer does. No condition beyond the statement's own. -/
import Derived.Test.YtldcgkkbmnahiaaQe
import Derived.Test.YtldcgkkbmnahiaaQf
import Derived.Test.YtldcgkkbmnahiaaPxx15
namespace Go.Proofs.Ytldcgkkbmnahiaa.Pure
set_option linter.unusedSimpArgs false
set_option linter.unusedVariables false
open Go.RowKit Go.Proofs.Ytldcgkkbmnahiaa.Px Go.Proofs.YtldcgkkbmnahiaaW.PrintWords Go.Proofs.YtldcgkkbmnahiaaW.PrintLast

theorem append_rd {l : List S47} : [] ++ l = l := rfl
/-- Of any list and any numbers the program finds and judges as the reference does. -/
theorem CmapFinds : ∀ (l : List S47) (a1 a2 : Int), (∀ x ∈ l, (Lit.int .i64 x.f0).wf = true ∧ (Lit.int .i64 x.f1).wf = true ∧ (Lit.int .i64 x.f2).wf = true) → l.length * 24 ≤ 140737488351232 → (Lit.int .i64 a1).wf = true → (Lit.int .i64 a2).wf = true → ∃ k, colophonlaw11_CmapFinds.f k l a1 a2 = some true := by
  intro l c n hw hs hc hn
  have hs : l.length * 24 ≤ 140737488351232 := hs
  refine Ev.rounds (r := true) ?_
  by_cases h : (l.length : Int) > 5000
  · refine Ev.congr (f := fun k => (colophonlaw11_wakes.f k).bind fun x => some x) (fun k => by unfold colophonlaw11_CmapFinds.f; rw [if_pos h]) ?_
    exact Ev.bind wakes_ev (Ev.now _)
  · have hl : l.length ≤ 100000 := by omega
    have hw' : ∀ x ∈ l, Wf47 x := fun x hx => by obtain ⟨a, b, d⟩ := hw x hx; exact ⟨wf_in a, wf_in b, wf_in d⟩
    refine Ev.congr (f := fun k => (cmap_Find.f k l c).bind fun t323 => ((colophonref11_Find.f k l c).bind fun t324 => (if t323 = t324 then ((cmap_Good.f k l n).bind fun t325 => ((colophonref11_Good.f k l n).bind fun t326 => (if (t325 == t326) = true then ((colophonlaw11_same.f k l l).bind fun t327 => (if t327 = true then ((colophonlaw11_wakes.f k).bind fun t328 => (some t328)) else (some false))) else (some false)))) else (some false)))) (fun k => ?_) ?_
    · unfold colophonlaw11_CmapFinds.f
      rw [if_neg h]
      simp only [Option.bind_some, List.nil_append]
      rw [if_pos (by simp; omega)]
    · refine Ev.bind (Find_ev l c hl hw' (wf_in hc) l.length 0 (by omega) (by omega)) ?_
      refine Ev.bind (refFind_ev l c hl hw' (wf_in hc) l.length 0 (by omega) (by omega)) ?_
      simp only [if_true]
      refine Ev.bind (Good_ev l n hl) ?_
      refine Ev.bind (refGood_ev l n hl) ?_
      simp only [beq_self_eq_true, if_true]
      refine Ev.bind (same_ev l (by omega)) ?_
      simp only [if_true]
      exact Ev.bind wakes_ev (Ev.now _)

end Go.Proofs.Ytldcgkkbmnahiaa.Pure
