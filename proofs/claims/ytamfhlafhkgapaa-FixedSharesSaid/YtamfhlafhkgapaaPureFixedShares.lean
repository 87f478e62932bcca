/- FixedShares: a total is shared out as the reference does, and what was handed in stays, of at most 4096 parts. No condition beyond the statement's own. -/
import Derived.Test.YtamfhlafhkgapaaFk
import Derived.Test.YtamfhlafhkgapaaPxx8
namespace Go.Proofs.Ytamfhlafhkgapaa.Pure
set_option linter.unusedSimpArgs false
set_option linter.unusedVariables false
open Go.RowKit Go.Proofs.Ytamfhlafhkgapaa.Px Go.Proofs.YtamfhlafhkgapaaW.PrintWords Go.Proofs.YtamfhlafhkgapaaW.PrintLast Go.Proofs.YtamfhlafhkgapaaW.PrintMore

theorem shares_l0 (total : Int) (l L S : List Int) (b : Bool) (hL : L = l.take 4096) (hl : l.length < 17592186044416) (hS : Ev (fun k => fixed_Share.f k total L) (S, b)) (hSl : S.length < 9223372036854775807) :
    ∀ (d : Nat) (xs : List Int) (n : Nat), xs.length - n = d → n ≤ xs.length → xs.length < 9223372036854775807 →
      Ev (fun k => colophonlaw01_FixedShares.l0 k total l (L ++ [77]) xs S n) true := by
  have hLl : L.length ≤ 4096 := by rw [hL, List.length_take]; omega
  have e1 : wrap64 (((L ++ [77]).length : Int) - 1) = (L.length : Int) := by
    rw [List.length_append, List.length_singleton, wrap64_small (by omega) (by omega)]; omega
  have e2 : (L ++ [77]).take ((L.length : Int)).toNat = L := by simp
  have e3 : rd (L ++ [77]) (L.length : Int) = 77 := by
    rw [rd_at (by simp)]; simp
  have hI : colophonkeep_Ints.f l 4096 = some L := by rw [hL]; exact Ints_f l 4096 hl
  intro d
  induction d with
  | zero =>
    intro xs n hd hn hx
    obtain ⟨K1, hS⟩ := hS
    obtain ⟨K2, h2⟩ := Same_ev S S hSl
    obtain ⟨K3, h3⟩ := Same_ev L L (by omega)
    refine ⟨max K1 (max K2 K3) + 1, fun k hk => ?_⟩
    obtain ⟨j, rfl⟩ : ∃ j, k = j + 1 := ⟨k - 1, by omega⟩
    have hS := hS j (by omega)
    have h2 := h2 j (by omega)
    have h3 := h3 j (by omega)
    simp only at hS h2 h3
    show colophonlaw01_FixedShares.l0 (j + 1) total l (L ++ [77]) xs S n = _
    rw [colophonlaw01_FixedShares.l0, if_neg (by omega), e1, if_pos (by omega), if_pos (by rw [List.length_append]; simp; omega), e2, hS]
    simp only [Option.bind_some]
    rw [h2]
    simp only [Option.bind_some, decide_true, if_true]
    rw [if_pos (by rw [List.length_append]; simp; omega), e3, if_pos rfl, hI]
    simp only [Option.bind_some]
    rw [h3]
    simp [wakes_f]
  | succ d ih =>
    intro xs n hd hn hx
    have h := ih (xs.set n (-5)) (n + 1) (by rw [List.length_set]; omega) (by rw [List.length_set]; omega) (by rw [List.length_set]; omega)
    refine Ev.step (f := fun k => colophonlaw01_FixedShares.l0 k total l (L ++ [77]) (xs.set n (-5)) S ((n + 1 : Nat) : Int)) (fun k => ?_) h
    rw [colophonlaw01_FixedShares.l0, if_pos (by omega), if_pos (by omega), wrap64_small (x := (n : Int) + 1) (by omega) (by omega)]
    rfl
theorem shareL_len' (total T : Int) : ∀ (t : List Int) (u g : Int), (shareL total T u g t).length = t.length := by
  intro t
  induction t with
  | nil => intro u g; rfl
  | cons x t ih => intro u g; simp [shareL, ih]
theorem shareS_len (total : Int) (l : List Int) : (shareS total l).1.length ≤ l.length := by
  unfold shareS
  split
  · rw [shareL_len']; exact Nat.le_refl _
  · simp
theorem FixedShares : colophonlaw01_FixedShares.Pure := by
  intro total l ht _ hb _
  refine Ev.rounds (g := fun k => colophonlaw01_FixedShares.f k total l) ?_
  have ht := i64_wf ht
  generalize hL : l.take 4096 = L
  have hLl : L.length ≤ 4096 := by rw [← hL, List.length_take]; omega
  have hI : colophonkeep_Ints.f l 4096 = some L := by rw [← hL]; exact Ints_f l 4096 (by omega)
  have e1 : wrap64 (((L ++ [77]).length : Int) - 1) = (L.length : Int) := by
    rw [List.length_append, List.length_singleton, wrap64_small (by omega) (by omega)]; omega
  have e2 : (L ++ [77]).take ((L.length : Int)).toNat = L := by simp
  have hS := Share_ev total L ht (by omega)
  have hSl := shareS_len total L
  have hl0 := shares_l0 total l L (shareS total L).1 (shareS total L).2 hL.symm (by omega) hS (by omega) ((shareS total L).1.length - 0) (shareS total L).1 0 rfl (by omega) (by omega)
  obtain ⟨K1, hS⟩ := hS
  obtain ⟨K2, h2⟩ := rShare_ev total L ht (by omega)
  obtain ⟨K3, h3⟩ := Same_ev (shareS total L).1 (shareS total L).1 (by omega)
  obtain ⟨K4, h4⟩ := hl0
  refine ⟨max (max K1 K2) (max K3 K4) + 1, fun k hk => ?_⟩
  obtain ⟨j, rfl⟩ : ∃ j, k = j + 1 := ⟨k - 1, by omega⟩
  have hS := hS (j + 1) (by omega)
  have h2 := h2 (j + 1) (by omega)
  have h3 := h3 (j + 1) (by omega)
  have h4 := h4 j (by omega)
  simp only at hS h2 h3 h4
  show colophonlaw01_FixedShares.f (j + 1) total l = _
  unfold colophonlaw01_FixedShares.f
  rw [hI]
  simp only [Option.bind_some]
  rw [if_pos (by omega), e1, if_pos (by omega), if_pos (by rw [List.length_append]; simp; omega), e2, hS]
  simp only [Option.bind_some]
  rw [h2]
  simp only [Option.bind_some]
  rw [h3]
  simp only [Option.bind_some, decide_true, if_true, bne_self_eq_false]
  rw [colophonlaw01_FixedShares.j0]
  simp only [Bool.false_eq_true, if_false]
  exact h4

end Go.Proofs.Ytamfhlafhkgapaa.Pure
