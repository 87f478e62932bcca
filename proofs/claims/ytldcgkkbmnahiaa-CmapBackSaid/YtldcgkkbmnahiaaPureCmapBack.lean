/- CmapBack: what is built of a list of spans is read as that list, in either format. No condition beyond the statement's own. -/
import Derived.Test.YtldcgkkbmnahiaaRn
import Derived.Test.YtldcgkkbmnahiaaPxx18
namespace Go.Proofs.Ytldcgkkbmnahiaa.Pure
set_option linter.unusedSimpArgs false
set_option linter.unusedVariables false
open Go.RowKit Go.Proofs.Ytldcgkkbmnahiaa.Px Go.Proofs.YtldcgkkbmnahiaaW.PrintWords Go.Proofs.YtldcgkkbmnahiaaW.PrintLast Go.Proofs.YtldcgkkbmnahiaaW.PrintMore

theorem fit_all {l : List S47} (h : goodS l 4096 = true) (hlast : ∀ h0 : 0 < l.length, (l[l.length - 1]'(by omega)).f1 ≤ 65534) : ∀ (d j : Nat) (hj : j < l.length), j + d + 1 = l.length → l[j].f1 ≤ 65534 := by
  intro d
  induction d with
  | zero => intro j hj e; have := hlast (by omega); have e2 : l.length - 1 = j := by omega
            subst e2
            exact this
  | succ d ih =>
    intro j hj e
    have h1 := ih (j + 1) (by omega) (by omega)
    have h2 := (good_at h (j + 1) (by omega)).2 (by omega)
    have h3 := (good_at h (j + 1) (by omega)).1
    simp only [Nat.add_sub_cancel] at h2
    omega
/-- What is built of a list is read as the list, in either format. -/
theorem CmapBack : ∀ (l : List S47), (∀ x ∈ l, (Lit.int .i64 x.f0).wf = true ∧ (Lit.int .i64 x.f1).wf = true ∧ (Lit.int .i64 x.f2).wf = true) → l.length * 24 ≤ 140737488351232 → ∃ k, colophonlaw11_CmapBack.f k l = some true := by
  intro l hw hs
  refine Ev.rounds (r := true) ?_
  have hwk : Ev (fun k => (colophonlaw11_wakes.f k).bind fun x => some x) true := Ev.bind wakes_ev (Ev.now _)
  by_cases h : (l.length : Int) > 500
  · exact Ev.congr (f := fun k => (colophonlaw11_wakes.f k).bind fun x => some x) (fun k => by unfold colophonlaw11_CmapBack.f; rw [if_pos h]) hwk
  · have hl : l.length ≤ 100000 := by omega
    have hz : ∀ xs : List Int, xs.length ≤ 1000000 → (strOfNums xs).size ≤ 140737488351232 := fun xs hx => by rw [son_size]; omega
    have hj1 : ∀ T : ByteArray, T.size ≤ 140737488351232 → (readS T 4096 = (l, 0)) → Ev (fun k => colophonlaw11_CmapBack.j1 k l T 0) true := fun T hT hr => by
      have h1 := Read_ev T 4096 hT
      rw [hr] at h1
      refine Ev.step (f := fun k => (cmap_Read.f k T 4096).bind fun bt426 => (if bt426.2 = 0 then ((colophonlaw11_same.f k bt426.1 l).bind fun t430 => (if t430 = true then ((colophonlaw11_wakes.f k).bind fun t431 => (some t431)) else (some false))) else (some false))) (fun k => by simp only [colophonlaw11_CmapBack.j1, if_true]) (Ev.bind h1 ?_)
      simp only [if_true]
      refine Ev.bind (same_ev l (by omega)) ?_
      simp only [if_true]
      exact hwk
    have hj1n : ∀ T : ByteArray, Ev (fun k => colophonlaw11_CmapBack.j1 k l T 110) true := fun T =>
      Ev.step (f := fun k => (colophonlaw11_wakes.f k).bind fun t432 => some t432) (fun k => by simp only [colophonlaw11_CmapBack.j1]; rw [if_neg (by decide)]) hwk
    have hW := BuildW_ev l hl
    have hG := Good_ev l 4096 hl
    have hstart : ∀ k, colophonlaw11_CmapBack.f k l = ((cmap_Build.f k l true).bind fun bt404 => ((cmap_Build.f k l false).bind fun bt412 => ((cmap_Good.f k l 4096).bind fun t420 => (if ((bt404.2 == 0) != t420) = true then (colophonlaw11_CmapBack.j0 k l bt404.1 bt404.2 bt412.1 bt412.2 true) else (if bt412.2 = 0 then (colophonlaw11_CmapBack.j0 k l bt404.1 bt404.2 bt412.1 bt412.2 (bt404.2 != 0)) else (colophonlaw11_CmapBack.j0 k l bt404.1 bt404.2 bt412.1 bt412.2 false)))))) := fun k => by
      unfold colophonlaw11_CmapBack.f
      rw [if_neg h]
      simp only [Option.bind_some, List.nil_append]
      simp only [if_pos (show ([] : List S47).length + l.length < 5864062014805 from by simp; omega)]
    refine Ev.congr hstart (Ev.bind hW ?_)
    cases hg : goodS l 4096 with
    | false =>
      rw [hg] at hG
      simp only [Bool.false_eq_true, if_false]
      have hN : Ev (fun k => cmap_Build.f k l false) ((⟨#[]⟩ : ByteArray), 110) := by
        rcases BuildN_ev l hl with hN | ⟨hg2, _⟩
        · exact hN
        · rw [hg] at hg2; cases hg2
      refine Ev.bind hN (Ev.bind hG ?_)
      refine Ev.congr (f := fun k => colophonlaw11_CmapBack.j0 k l ⟨#[]⟩ 110 ⟨#[]⟩ 110 false) (fun k => by rw [if_neg (by decide), if_neg (by decide)]) ?_
      refine Ev.step (f := fun k => colophonlaw11_CmapBack.j1 k l ⟨#[]⟩ 110) (fun k => by simp only [colophonlaw11_CmapBack.j0]; rw [if_neg (by decide), if_neg (by decide)]) (hj1n _)
    | true =>
      rw [hg] at hG
      simp only [if_true]
      have hWr := wide_back hg (by omega)
      have hWz := hz (headW l.length ++ l.flatMap row12) (by rw [List.length_append, flat_len row12 12 row12_len]; show 28 + _ ≤ _; omega)
      have hRW := Read_ev _ 4096 hWz
      rw [hWr] at hRW
      generalize strOfNums (headW l.length ++ l.flatMap row12) = TW at *
      have hj0 : ∀ (T : ByteArray) (e : Int), Ev (fun k => colophonlaw11_CmapBack.j1 k l T e) true → Ev (fun k => colophonlaw11_CmapBack.j0 k l TW 0 T e false) true := fun T e he => by
        refine Ev.step (f := fun k => (cmap_Read.f k TW 4096).bind fun bt421 => (if bt421.2 = 0 then ((colophonlaw11_same.f k bt421.1 l).bind fun t425 => (if t425 = true then (colophonlaw11_CmapBack.j1 k l T e) else (some false))) else (some false))) (fun k => by simp only [colophonlaw11_CmapBack.j0, if_true]; rw [if_neg (by decide)]) (Ev.bind hRW ?_)
        simp only [if_true]
        refine Ev.bind (same_ev l (by omega)) ?_
        simp only [if_true]
        exact he
      rcases BuildN_ev l hl with hN | ⟨_, hl5, hlast, p, q, hN⟩
      · refine Ev.bind hN (Ev.bind hG ?_)
        exact Ev.congr (f := fun k => colophonlaw11_CmapBack.j0 k l TW 0 ⟨#[]⟩ 110 false) (fun k => by rw [if_neg (by decide), if_neg (by decide)]) (hj0 _ _ (hj1n _))
      · have hNr := narrow_back hg hl5 (fun j hj => fit_all hg hlast (l.length - 1 - j) j hj (by omega)) p q
        have hNz := hz (bytesN (l ++ [endRow]) (l.length + 1) p q) (by rw [bytesN_eq, List.length_append, mapN_len _ _ _ _ (by simp)]; show 12 + _ ≤ _; simp; omega)
        generalize strOfNums (bytesN (l ++ [endRow]) (l.length + 1) p q) = TN at *
        refine Ev.bind hN (Ev.bind hG ?_)
        exact Ev.congr (f := fun k => colophonlaw11_CmapBack.j0 k l TW 0 TN 0 false) (fun k => by rw [if_neg (by decide), if_pos rfl]; rfl) (hj0 _ _ (hj1 _ hNz hNr))

end Go.Proofs.Ytldcgkkbmnahiaa.Pure
