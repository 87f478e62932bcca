/- Lemmas on the sharing of a total, for the statements of chapter 01: no condition beyond what each lemma says. -/
import Derived.Test.YtamfhlafhkgapaaFh
import Derived.Test.YtamfhlafhkgapaaFj
import Derived.Test.YtamfhlafhkgapaaPxx6
import Derived.Test.YtamfhlafhkgapaaPxx7
namespace Go.Proofs.Ytamfhlafhkgapaa.Px
set_option linter.unusedSimpArgs false
set_option linter.unusedVariables false
open Go.RowKit Go.Proofs.YtamfhlafhkgapaaW.PrintWords Go.Proofs.YtamfhlafhkgapaaW.PrintLast Go.Proofs.YtamfhlafhkgapaaW.PrintMore

/-- what Share hands back, part by part -/
def shareL (total T : Int) : Int → Int → List Int → List Int
  | _, _, [] => []
  | upto, given, p :: t => ((floorS total (upto + p) T).1 - given) :: shareL total T (upto + p) (floorS total (upto + p) T).1 t
def shareS (total : Int) (parts : List Int) : List Int × Bool :=
  if (sumS parts).2 = true ∧ (sumS parts).1 ≠ 0 ∧ inn total = true ∧ parts.all (fun p => decide (0 ≤ p)) = true then (shareL total (sumS parts).1 0 0 parts, true) else ([], false)
theorem keep_bd (x : Int) (b : Bool) : -1099511627776 ≤ (keep x b).1 ∧ (keep x b).1 ≤ 1099511627776 := by
  unfold keep
  split
  · rename_i h; exact (inn_iff x).1 h.2
  · exact ⟨by decide, by decide⟩
theorem floorS_bd (a b c : Int) : -1099511627776 ≤ (floorS a b c).1 ∧ (floorS a b c).1 ≤ 1099511627776 := by
  unfold floorS
  split
  · exact ⟨by decide, by decide⟩
  · exact keep_bd _ _
theorem sumS_bd (l : List Int) : -1099511627776 ≤ (sumS l).1 ∧ (sumS l).1 ≤ 1099511627776 := by
  unfold sumS
  split
  · exact keep_bd _ _
  · exact ⟨by decide, by decide⟩
theorem sumS_all {l : List Int} (h : (sumS l).2 = true) : l.all inn = true := by
  unfold sumS at h
  split at h
  · assumption
  · simp at h
theorem Share_l1 (total T : Int) (l : List Int) (ht : i64ok total) (hT : i64ok T) (hl : l.length ≤ 4194304) (hall : l.all inn = true) : ∀ (t : List Int) (n : Nat) (out : List Int) (upto given : Int), l.drop n = t → n ≤ l.length → out.length ≤ n → -(n * 1099511627776) ≤ upto → upto ≤ n * 1099511627776 → -1099511627776 ≤ given → given ≤ 1099511627776 →
    Ev (fun k => fixed_Share.l1 k total T out upto given l (l.length : Int) n) (out ++ shareL total T upto given t, true) := by
  intro t
  induction t with
  | nil =>
    intro n out upto given h hnl _ _ _ _ _
    have hn := drop_nil h
    refine Ev.step (f := fun _ => some (out, true)) (fun k => ?_) (by simpa [shareL] using Ev.now _)
    rw [fixed_Share.l1, if_neg (by omega)]
  | cons x t ih =>
    intro n out upto given h hnl ho b0 b1 g0 g1
    obtain ⟨hn, hx, ht'⟩ := drop_cons h
    have hd : rd l (n : Int) = x := by rw [rd_at hn, hx]
    have hxi : inn x = true := by
      rw [List.all_eq_true] at hall
      exact hall x (by rw [← hx]; exact List.getElem_mem hn)
    have hxb := (inn_iff x).1 hxi
    have hf := Floor_ev total (upto + x) T ht (by unfold i64ok; omega) hT
    have hfb := floorS_bd total (upto + x) T
    have h2 := ih (n + 1) (out ++ [(floorS total (upto + x) T).1 - given]) (upto + x) (floorS total (upto + x) T).1 ht' (by omega) (by simp; omega) (by omega) (by omega) hfb.1 hfb.2
    obtain ⟨K1, hf⟩ := hf
    obtain ⟨K2, h2⟩ := h2
    refine ⟨max K1 K2 + 1, fun k hk => ?_⟩
    obtain ⟨m, rfl⟩ : ∃ m, k = m + 1 := ⟨k - 1, by omega⟩
    have hf := hf m (by omega)
    have h2 := h2 m (by omega)
    simp only at hf h2
    show fixed_Share.l1 (m + 1) total T out upto given l (l.length : Int) n = _
    rw [fixed_Share.l1, if_pos (by omega), if_pos (by omega), if_pos (by omega), hd, wrap64_small (x := upto + x) (by omega) (by omega), hf]
    simp only [Option.bind_some]
    rw [if_pos (by omega), wrap64_small (x := (floorS total (upto + x) T).1 - given) (by omega) (by omega), wrap64_small (x := (n : Int) + 1) (by omega) (by omega)]
    rw [show (n : Int) + 1 = ((n + 1 : Nat) : Int) from by omega, h2]
    simp [shareL]
theorem Share_l0 (total T : Int) (l : List Int) (ht : i64ok total) (hT : i64ok T) (hl : l.length ≤ 4194304) (hall : l.all inn = true) : ∀ (t : List Int) (n : Nat), l.drop n = t → n ≤ l.length →
    Ev (fun k => fixed_Share.l0 k total l T l (l.length : Int) n) (if t.all (fun p => decide (0 ≤ p)) = true then (shareL total T 0 0 l, true) else ([], false)) := by
  intro t
  induction t with
  | nil =>
    intro n h hnl
    have hn := drop_nil h
    have h1 := Share_l1 total T l ht hT hl hall l 0 [] 0 0 rfl (by omega) (by simp) (by omega) (by omega) (by omega) (by omega)
    refine Ev.step (f := fun k => fixed_Share.l1 k total T ([] : List Int) 0 0 l (l.length : Int) 0) (fun k => ?_) (by simpa using h1)
    rw [fixed_Share.l0, if_neg (by omega)]
  | cons x t ih =>
    intro n h hnl
    obtain ⟨hn, hx, ht'⟩ := drop_cons h
    have hd : rd l (n : Int) = x := by rw [rd_at hn, hx]
    refine Ev.step (f := fun k => if x < 0 then some (([] : List Int), false) else fixed_Share.l0 k total l T l (l.length : Int) (wrap64 ((n : Int) + 1))) (fun k => ?_) ?_
    · rw [fixed_Share.l0, if_pos (by omega), if_pos (by omega), if_pos (by omega), hd]
    · by_cases c : x < 0
      · simp only [if_pos c]
        have : decide (0 ≤ x) = false := by simp; omega
        simp only [List.all_cons, this, Bool.false_and, Bool.false_eq_true, if_false]
        exact Ev.now _
      · simp only [if_neg c]
        have : decide (0 ≤ x) = true := by simp; omega
        simp only [List.all_cons, this, Bool.true_and]
        rw [wrap64_small (x := (n : Int) + 1) (by omega) (by omega)]
        exact ih (n + 1) ht' (by omega)
theorem Share_ev (total : Int) (l : List Int) (ht : i64ok total) (hl : l.length ≤ 4194304) : Ev (fun k => fixed_Share.f k total l) (shareS total l) := by
  unfold fixed_Share.f
  refine Ev.bind (Sum_ev l hl) ?_
  have hb := sumS_bd l
  unfold shareS
  cases h1 : (sumS l).2
  · simp only [Bool.false_eq_true, if_false, false_and]
    refine Ev.step (f := fun _ => some (([] : List Int), false)) (fun k => ?_) (Ev.now _)
    rw [fixed_Share.j0]; rfl
  · simp only [if_true, true_and]
    by_cases h2 : (sumS l).1 = 0
    · simp only [if_pos h2, h2, ne_eq, not_true_eq_false, false_and, if_false]
      refine Ev.step (f := fun _ => some (([] : List Int), false)) (fun k => ?_) (Ev.now _)
      rw [fixed_Share.j0]; rfl
    · simp only [if_neg h2, ne_eq, h2, not_false_eq_true, true_and, In_f, Option.bind_some]
      cases h3 : inn total
      · simp only [Bool.false_eq_true, false_and, if_false, Bool.not_false]
        refine Ev.step (f := fun _ => some (([] : List Int), false)) (fun k => ?_) (Ev.now _)
        rw [fixed_Share.j0]; rfl
      · simp only [true_and, Bool.not_true]
        refine Ev.step (f := fun k => fixed_Share.l0 k total l (sumS l).1 l (l.length : Int) 0) (fun k => ?_) ?_
        · rw [fixed_Share.j0]; rfl
        · exact Share_l0 total (sumS l).1 l ht (by unfold i64ok; omega) hl (sumS_all h1) l 0 rfl (by omega)
theorem rShare_l1 (total T : Int) (l : List Int) (ht : i64ok total) (hT : i64ok T) (hl : l.length ≤ 4194304) (hall : l.all inn = true) : ∀ (t : List Int) (n : Nat) (out : List Int) (upto given : Int), l.drop n = t → n ≤ l.length → out.length ≤ n → -(n * 1099511627776) ≤ upto → upto ≤ n * 1099511627776 → -1099511627776 ≤ given → given ≤ 1099511627776 →
    Ev (fun k => colophonref01_Share.l1 k total l T out upto given n) (out ++ shareL total T upto given t, true) := by
  intro t
  induction t with
  | nil =>
    intro n out upto given h hnl _ _ _ _ _
    have hn := drop_nil h
    refine Ev.step (f := fun _ => some (out, true)) (fun k => ?_) (by simpa [shareL] using Ev.now _)
    rw [colophonref01_Share.l1, if_neg (by omega)]
  | cons x t ih =>
    intro n out upto given h hnl ho b0 b1 g0 g1
    obtain ⟨hn, hx, ht'⟩ := drop_cons h
    have hd : rd l (n : Int) = x := by rw [rd_at hn, hx]
    have hxi : inn x = true := by
      rw [List.all_eq_true] at hall
      exact hall x (by rw [← hx]; exact List.getElem_mem hn)
    have hxb := (inn_iff x).1 hxi
    have hf := rFloor_ev total (upto + x) T ht (by unfold i64ok; omega) hT
    have hfb := floorS_bd total (upto + x) T
    have h2 := ih (n + 1) (out ++ [(floorS total (upto + x) T).1 - given]) (upto + x) (floorS total (upto + x) T).1 ht' (by omega) (by simp; omega) (by omega) (by omega) hfb.1 hfb.2
    obtain ⟨K1, hf⟩ := hf
    obtain ⟨K2, h2⟩ := h2
    refine ⟨max K1 K2 + 1, fun k hk => ?_⟩
    obtain ⟨m, rfl⟩ : ∃ m, k = m + 1 := ⟨k - 1, by omega⟩
    have hf := hf m (by omega)
    have h2 := h2 m (by omega)
    simp only at hf h2
    show colophonref01_Share.l1 (m + 1) total l T out upto given n = _
    rw [colophonref01_Share.l1, if_pos (by omega), if_pos (by omega), hd, wrap64_small (x := upto + x) (by omega) (by omega), hf]
    simp only [Option.bind_some]
    rw [if_pos (by omega), wrap64_small (x := (floorS total (upto + x) T).1 - given) (by omega) (by omega), wrap64_small (x := (n : Int) + 1) (by omega) (by omega)]
    rw [show (n : Int) + 1 = ((n + 1 : Nat) : Int) from by omega, h2]
    simp [shareL]
theorem rShare_l0 (total T : Int) (l : List Int) (ht : i64ok total) (hT : i64ok T) (hl : l.length ≤ 4194304) (hall : l.all inn = true) : ∀ (t : List Int) (n : Nat), l.drop n = t → n ≤ l.length →
    Ev (fun k => colophonref01_Share.l0 k total l T n) (if t.all (fun p => decide (0 ≤ p)) = true then (shareL total T 0 0 l, true) else ([], false)) := by
  intro t
  induction t with
  | nil =>
    intro n h hnl
    have hn := drop_nil h
    have h1 := rShare_l1 total T l ht hT hl hall l 0 [] 0 0 rfl (by omega) (by simp) (by omega) (by omega) (by omega) (by omega)
    refine Ev.step (f := fun k => colophonref01_Share.l1 k total l T ([] : List Int) 0 0 0) (fun k => ?_) (by simpa using h1)
    rw [colophonref01_Share.l0, if_neg (by omega)]
  | cons x t ih =>
    intro n h hnl
    obtain ⟨hn, hx, ht'⟩ := drop_cons h
    have hd : rd l (n : Int) = x := by rw [rd_at hn, hx]
    refine Ev.step (f := fun k => if x < 0 then some (([] : List Int), false) else colophonref01_Share.l0 k total l T (wrap64 ((n : Int) + 1))) (fun k => ?_) ?_
    · rw [colophonref01_Share.l0, if_pos (by omega), if_pos (by omega), hd]
    · by_cases c : x < 0
      · simp only [if_pos c]
        have : decide (0 ≤ x) = false := by simp; omega
        simp only [List.all_cons, this, Bool.false_and, Bool.false_eq_true, if_false]
        exact Ev.now _
      · simp only [if_neg c]
        have : decide (0 ≤ x) = true := by simp; omega
        simp only [List.all_cons, this, Bool.true_and]
        rw [wrap64_small (x := (n : Int) + 1) (by omega) (by omega)]
        exact ih (n + 1) ht' (by omega)
theorem rShare_ev (total : Int) (l : List Int) (ht : i64ok total) (hl : l.length ≤ 4194304) : Ev (fun k => colophonref01_Share.f k total l) (shareS total l) := by
  unfold colophonref01_Share.f
  refine Ev.bind (rSum_ev l hl) ?_
  have hb := sumS_bd l
  unfold shareS
  cases h1 : (sumS l).2
  · simp only [Bool.false_eq_true, if_false, false_and]
    refine Ev.step (f := fun _ => some (([] : List Int), false)) (fun k => ?_) (Ev.now _)
    rw [colophonref01_Share.j0]; rfl
  · simp only [if_true, true_and]
    by_cases h2 : (sumS l).1 = 0
    · simp only [if_pos h2, h2, ne_eq, not_true_eq_false, false_and, if_false]
      refine Ev.step (f := fun _ => some (([] : List Int), false)) (fun k => ?_) (Ev.now _)
      rw [colophonref01_Share.j0]; rfl
    · simp only [if_neg h2, ne_eq, h2, not_false_eq_true, true_and, rIn_f, Option.bind_some]
      cases h3 : inn total
      · simp only [Bool.false_eq_true, false_and, if_false, Bool.not_false]
        refine Ev.step (f := fun _ => some (([] : List Int), false)) (fun k => ?_) (Ev.now _)
        rw [colophonref01_Share.j0]; rfl
      · simp only [true_and, Bool.not_true]
        refine Ev.step (f := fun k => colophonref01_Share.l0 k total l (sumS l).1 0) (fun k => ?_) ?_
        · rw [colophonref01_Share.j0]; rfl
        · exact rShare_l0 total (sumS l).1 l ht (by unfold i64ok; omega) hl (sumS_all h1) l 0 rfl (by omega)

end Go.Proofs.Ytamfhlafhkgapaa.Px
