/- Lemmas on sums of lists, copies and likeness, for the statements of chapter 01: no condition beyond what each lemma says. -/
import Derived.Test.YtamfhlafhkgapaaFg
import Derived.Test.YtamfhlafhkgapaaPxx2
namespace Go.Proofs.Ytamfhlafhkgapaa.Px
set_option linter.unusedSimpArgs false
set_option linter.unusedVariables false
open Go.RowKit Go.Proofs.YtamfhlafhkgapaaW.PrintWords Go.Proofs.YtamfhlafhkgapaaW.PrintLast Go.Proofs.YtamfhlafhkgapaaW.PrintMore

theorem i64_mask20 (x : Int) : Go.bits .and .i64 x 1048575 = x % 1048576 := by
  have h1 : (BitVec.ofInt 64 x &&& BitVec.ofInt 64 1048575).toNat = (x % 18446744073709551616).toNat % 1048576 := by
    rw [BitVec.toNat_and, BitVec.toNat_ofInt, BitVec.toNat_ofInt]
    have e2 : ((1048575 : Int) % ((2 ^ 64 : Nat) : Int)).toNat = 2 ^ 20 - 1 := by decide
    rw [e2, Nat.and_two_pow_sub_one_eq_mod]
    rfl
  show IntKind.i64.wrap (((BitVec.ofInt 64 x &&& BitVec.ofInt 64 1048575).toNat : Nat) : Int) = x % 1048576
  rw [h1, IntKind.wrap_i64]
  omega
theorem rd_at {l : List Int} {n : Nat} (h : n < l.length) : rd l (n : Int) = l[n] := by
  unfold rd
  simp only [Int.toNat_natCast]
  rw [List.getD_eq_getElem?_getD, List.getElem?_eq_getElem h]; rfl
theorem drop_cons {α : Type} {l : List α} {n : Nat} {x : α} {t : List α} (h : l.drop n = x :: t) : ∃ hn : n < l.length, l[n] = x ∧ l.drop (n + 1) = t := by
  have hn : n < l.length := by
    rcases Nat.lt_or_ge n l.length with h1 | h1
    · exact h1
    · rw [List.drop_eq_nil_of_le h1] at h; cases h
  have e := List.drop_eq_getElem_cons hn
  rw [h] at e
  injection e with e1 e2
  exact ⟨hn, e1.symm, e2.symm⟩
theorem drop_nil {α : Type} {l : List α} {n : Nat} (h : l.drop n = []) : l.length ≤ n := by
  have := congrArg List.length h
  simp at this; omega
/-- the sum, if all are in and it is -/
def sumS (l : List Int) : Int × Bool := if l.all inn = true then keep l.sum true else (0, false)
theorem Sum_l0 (l : List Int) (hl : l.length ≤ 4194304) : ∀ (t : List Int) (n : Nat) (hi lo : Int), l.drop n = t → n ≤ l.length → 0 ≤ lo → lo ≤ n * 1048576 → -(n * 1048576) ≤ hi → hi ≤ n * 1048576 →
    Ev (fun k => fixed_Sum.l0 k hi lo l (l.length : Int) n) (if t.all inn = true then keep (hi * 1048576 + lo + t.sum) true else (0, false)) := by
  intro t
  induction t with
  | nil =>
    intro n hi lo h hnl a0 a1 b0 b1
    have hn := drop_nil h
    refine Ev.step (f := fun _ => some (keep (hi * 1048576 + lo) true)) (fun k => ?_) (by simpa using Ev.now _)
    rw [fixed_Sum.l0, if_neg (by omega)]
    simp only [i64_mask20]
    rw [wrap64_small (x := hi + lo / 1048576) (by omega) (by omega)]
    by_cases c1 : hi + lo / 1048576 < -1048576
    · rw [if_pos c1, keep_out (by omega)]
    · rw [if_neg c1]
      by_cases c2 : hi + lo / 1048576 > 1048576
      · rw [if_pos c2, keep_out (by omega)]
      · rw [if_neg c2, wrap64_small (x := (hi + lo / 1048576) * 1048576) (by omega) (by omega), wrap64_small (by omega) (by omega), kept_f]
        simp only [Option.bind_some]
        rw [show (hi + lo / 1048576) * 1048576 + lo % 1048576 = hi * 1048576 + lo from by omega]
  | cons x t ih =>
    intro n hi lo h hnl a0 a1 b0 b1
    obtain ⟨hn, hx, ht⟩ := drop_cons h
    have hd : rd l (n : Int) = x := by rw [rd_at hn, hx]
    refine Ev.step (f := fun k => if inn x = true then fixed_Sum.l0 k (wrap64 (hi + x / 1048576)) (wrap64 (lo + x % 1048576)) l (l.length : Int) (wrap64 ((n : Int) + 1)) else some (0, false)) (fun k => ?_) ?_
    · rw [fixed_Sum.l0, if_pos (by omega), if_pos (by omega), if_pos (by omega), hd, In_f, i64_mask20]; rfl
    · cases hi' : inn x
      · simp [hi']; exact Ev.now _
      · simp only [if_true]
        have hb := (inn_iff x).1 hi'
        rw [wrap64_small (x := hi + x / 1048576) (by omega) (by omega), wrap64_small (x := lo + x % 1048576) (by omega) (by omega), wrap64_small (x := (n : Int) + 1) (by omega) (by omega)]
        have h2 := ih (n + 1) (hi + x / 1048576) (lo + x % 1048576) ht (by omega) (by omega) (by omega) (by omega) (by omega)
        have e : (hi + x / 1048576) * 1048576 + (lo + x % 1048576) + t.sum = hi * 1048576 + lo + (x :: t).sum := by
          rw [List.sum_cons]; omega
        rw [e] at h2
        simp only [List.all_cons, hi', Bool.true_and]
        exact h2
theorem Sum_ev (l : List Int) (hl : l.length ≤ 4194304) : Ev (fun k => fixed_Sum.f k l) (sumS l) := by
  have h := Sum_l0 l hl l 0 0 0 rfl (by omega) (by omega) (by omega) (by omega) (by omega)
  simp only [Int.zero_mul, Int.zero_add] at h
  exact h
theorem rSum_l0 (l : List Int) (hl : l.length ≤ 4194304) : ∀ (t : List Int) (n : Nat) (s : Int), l.drop n = t → n ≤ l.length → -(n * 1099511627776) ≤ s → s ≤ n * 1099511627776 →
    Ev (fun k => colophonref01_Sum.l0 k l s n) (if t.all inn = true then keep (s + t.sum) true else (0, false)) := by
  intro t
  induction t with
  | nil =>
    intro n s h hnl b0 b1
    have hn := drop_nil h
    refine Ev.step (f := fun _ => some (keep s true)) (fun k => ?_) (by simpa using Ev.now _)
    rw [colophonref01_Sum.l0, if_neg (by omega), told_f]; rfl
  | cons x t ih =>
    intro n s h hnl b0 b1
    obtain ⟨hn, hx, ht⟩ := drop_cons h
    have hd : rd l (n : Int) = x := by rw [rd_at hn, hx]
    refine Ev.step (f := fun k => if inn x = true then colophonref01_Sum.l0 k l (wrap64 (s + x)) (wrap64 ((n : Int) + 1)) else some (0, false)) (fun k => ?_) ?_
    · rw [colophonref01_Sum.l0, if_pos (by omega), if_pos (by omega), hd, rIn_f]; rfl
    · cases hi' : inn x
      · simp [hi']; exact Ev.now _
      · simp only [if_true]
        have hb := (inn_iff x).1 hi'
        rw [wrap64_small (x := s + x) (by omega) (by omega), wrap64_small (x := (n : Int) + 1) (by omega) (by omega)]
        have h2 := ih (n + 1) (s + x) ht (by omega) (by omega) (by omega)
        have e : s + x + t.sum = s + (x :: t).sum := by rw [List.sum_cons]; omega
        rw [e] at h2
        simp only [List.all_cons, hi', Bool.true_and]
        exact h2
theorem rSum_ev (l : List Int) (hl : l.length ≤ 4194304) : Ev (fun k => colophonref01_Sum.f k l) (sumS l) := by
  have h := rSum_l0 l hl l 0 0 rfl (by omega) (by omega) (by omega)
  simp only [Int.zero_add] at h
  exact h
theorem Ints_f (l : List Int) (m : Nat) (hl : l.length < 17592186044416) : colophonkeep_Ints.f l m = some (l.take m) := by
  unfold colophonkeep_Ints.f
  by_cases c : (l.length : Int) > m
  · rw [if_pos c, if_pos (by omega), if_pos (by omega)]
    simp only [Option.bind_some, List.nil_append, List.length_nil, Int.toNat_natCast]
    rw [if_pos (by rw [List.length_take]; omega)]
  · rw [if_neg c]
    simp only [Option.bind_some, List.nil_append, List.length_nil]
    rw [if_pos (by omega), List.take_of_length_le (by omega)]
theorem Same_l0 (a b : List Int) (hab : a.length = b.length) (hl : a.length < 9223372036854775807) : ∀ (t : List Int) (n : Nat), a.drop n = t → n ≤ a.length →
    Ev (fun k => colophonkeep_Same.l0 k a b n) (decide (a.drop n = b.drop n)) := by
  intro t
  induction t with
  | nil =>
    intro n h hnl
    have hn := drop_nil h
    refine Ev.step (f := fun _ => some true) (fun k => ?_) ?_
    · rw [colophonkeep_Same.l0, if_neg (by omega)]
    · have hb : b.drop n = [] := List.drop_eq_nil_of_le (by omega)
      rw [h, hb]; simpa using Ev.now _
  | cons x t ih =>
    intro n h hnl
    obtain ⟨hn, hx, ht⟩ := drop_cons h
    have hnb : n < b.length := by omega
    refine Ev.step (f := fun k => if a[n] = b[n] then colophonkeep_Same.l0 k a b (wrap64 ((n : Int) + 1)) else some false) (fun k => ?_) ?_
    · rw [colophonkeep_Same.l0, if_pos (by omega), if_pos (by omega), if_pos (by omega), rd_at hn, rd_at hnb]
    · rw [wrap64_small (x := (n : Int) + 1) (by omega) (by omega)]
      have h2 := ih (n + 1) ht (by omega)
      by_cases e : a[n] = b[n]
      · simp only [if_pos e]
        have e2 : (a.drop n = b.drop n) = (a.drop (n + 1) = b.drop (n + 1)) := by
          rw [List.drop_eq_getElem_cons hn, List.drop_eq_getElem_cons hnb, e, List.cons.injEq]; simp only [true_and]
        simp only [e2]
        exact h2
      · simp only [if_neg e]
        have e2 : ¬ (a.drop n = b.drop n) := by
          rw [List.drop_eq_getElem_cons hn, List.drop_eq_getElem_cons hnb]
          intro h9; injection h9 with h9 _; exact e h9
        simp only [e2, decide_false]; exact Ev.now _
theorem Same_ev (a b : List Int) (hl : a.length < 9223372036854775807) : Ev (fun k => colophonkeep_Same.f k a b) (decide (a = b)) := by
  unfold colophonkeep_Same.f
  by_cases c : a.length = b.length
  · have h := Same_l0 a b c hl a 0 rfl (by omega)
    simp only [List.drop_zero] at h
    refine Ev.congr (fun k => ?_) h
    rw [if_pos (by omega)]; rfl
  · refine Ev.congr (f := fun _ => some false) (fun k => by rw [if_neg (by omega)]) ?_
    have : ¬ a = b := fun h => c (by rw [h])
    simp only [this, decide_false]; exact Ev.now _

end Go.Proofs.Ytamfhlafhkgapaa.Px
