-- Lean text written by this session's own program (wip/tools/myprint.py) for this claim
import Derived.Test.YtamfhlafhkgapaaPxx0
import Derived.Test.YtamfhlafhkgapaaPxx1
import Derived.Test.YtamfhlafhkgapaaPxx2
import Derived.Test.YtamfhlafhkgapaaPxx4
namespace Go.Proofs.Ytamfhlafhkgapaa.Px
open Go.RowKit Go.Proofs.YtamfhlafhkgapaaW.PrintWords Go.Proofs.YtamfhlafhkgapaaW.PrintLast Go.Proofs.YtamfhlafhkgapaaW.PrintMore
attribute [local go_sem] max2_int min2_int max_two min_two max_three min_three max_four min_four   -- for this text's walks alone
set_option linter.unusedVariables false
set_option linter.unusedSimpArgs false

/-! ### colophonref01_divide: function 41 -/
def colophonref01_divide.l0 : Nat → Int → Int → Int → Int → Int → Int → Int → Option (Int × Int × Int)
  | 0, _, _, _, _, _, _, _ => none
  | k + 1, x0, x1, x2, x9, x10, x11, x12 => if x12 ≥ 0 then (if 0 ≤ (IntKind.u64.wrap (Go.bits .and .i64 x12 63)) then (if x12 ≥ 64 then (if 0 ≤ (IntKind.u64.wrap (wrap64 (x12 - 64))) then (if (Go.bits .or .u64 (IntKind.u64.wrap (x11 * 2)) (Go.bits .and .u64 (shr .u64 x0 (IntKind.u64.wrap (wrap64 (x12 - 64)))) 1)) ≥ x2 then (colophonref01_divide.l0 k x0 x1 x2 (Go.bits .or .u64 (IntKind.u64.wrap (x9 * 2)) (x10 / 9223372036854775808)) (Go.bits .or .u64 (IntKind.u64.wrap (x10 * 2)) 1) (IntKind.u64.wrap ((Go.bits .or .u64 (IntKind.u64.wrap (x11 * 2)) (Go.bits .and .u64 (shr .u64 x0 (IntKind.u64.wrap (wrap64 (x12 - 64)))) 1)) - x2)) (wrap64 (x12 - 1))) else (colophonref01_divide.l0 k x0 x1 x2 (Go.bits .or .u64 (IntKind.u64.wrap (x9 * 2)) (x10 / 9223372036854775808)) (IntKind.u64.wrap (x10 * 2)) (Go.bits .or .u64 (IntKind.u64.wrap (x11 * 2)) (Go.bits .and .u64 (shr .u64 x0 (IntKind.u64.wrap (wrap64 (x12 - 64)))) 1)) (wrap64 (x12 - 1)))) else (none)) else (if (Go.bits .or .u64 (IntKind.u64.wrap (x11 * 2)) (Go.bits .and .u64 (shr .u64 x1 (IntKind.u64.wrap (Go.bits .and .i64 x12 63))) 1)) ≥ x2 then (colophonref01_divide.l0 k x0 x1 x2 (Go.bits .or .u64 (IntKind.u64.wrap (x9 * 2)) (x10 / 9223372036854775808)) (Go.bits .or .u64 (IntKind.u64.wrap (x10 * 2)) 1) (IntKind.u64.wrap ((Go.bits .or .u64 (IntKind.u64.wrap (x11 * 2)) (Go.bits .and .u64 (shr .u64 x1 (IntKind.u64.wrap (Go.bits .and .i64 x12 63))) 1)) - x2)) (wrap64 (x12 - 1))) else (colophonref01_divide.l0 k x0 x1 x2 (Go.bits .or .u64 (IntKind.u64.wrap (x9 * 2)) (x10 / 9223372036854775808)) (IntKind.u64.wrap (x10 * 2)) (Go.bits .or .u64 (IntKind.u64.wrap (x11 * 2)) (Go.bits .and .u64 (shr .u64 x1 (IntKind.u64.wrap (Go.bits .and .i64 x12 63))) 1)) (wrap64 (x12 - 1))))) else (none)) else (some (x9, x10, x11))
def colophonref01_divide.f (k : Nat) (a0 : Int) (a1 : Int) (a2 : Int) : Option (Int × Int × Int) := colophonref01_divide.l0 k a0 a1 a2 0 0 0 127
theorem colophonref01_divide.mono_l : ∀ k, (∀ y0 y1 y2 y3 y4 y5 y6, LeO (colophonref01_divide.l0 k y0 y1 y2 y3 y4 y5 y6) (colophonref01_divide.l0 (k + 1) y0 y1 y2 y3 y4 y5 y6))
  | 0 => fun _ _ _ _ _ _ _ r h => by simp [colophonref01_divide.l0] at h
  | k + 1 => by
    have ih0 := colophonref01_divide.mono_l k
    · intro y0 y1 y2 y3 y4 y5 y6
      unfold colophonref01_divide.l0
      repeat' first
      | (with_reducible exact ih0 _ _ _ _ _ _ _)
      | (with_reducible exact LeO.refl _)
      | (with_reducible exact LeO.none _)
      | (with_reducible refine LeO.ite ?_ ?_)
      | (with_reducible refine LeO.bind ?_ (fun _ => ?_))
      | exact ih0 _ _ _ _ _ _ _
      | exact LeO.none _
      | refine LeO.ite ?_ ?_
      | refine LeO.bind ?_ (fun _ => ?_)
theorem colophonref01_divide.mono : ∀ a0 a1 a2 k, LeO (colophonref01_divide.f k a0 a1 a2) (colophonref01_divide.f (k + 1) a0 a1 a2) := by
  intro a0 a1 a2 k
  have ih0 := colophonref01_divide.mono_l k
  unfold colophonref01_divide.f
  repeat' first
      | (with_reducible exact ih0 _ _ _ _ _ _ _)
      | (with_reducible exact LeO.refl _)
      | (with_reducible exact LeO.none _)
      | (with_reducible refine LeO.ite ?_ ?_)
      | (with_reducible refine LeO.bind ?_ (fun _ => ?_))
      | exact ih0 _ _ _ _ _ _ _
      | exact LeO.none _
      | refine LeO.ite ?_ ?_
      | refine LeO.bind ?_ (fun _ => ?_)
set_option maxHeartbeats 8000000 in
set_option maxRecDepth 100000 in
theorem colophonref01_divide.calls (k : Nat) (a0 : Int) (a1 : Int) (a2 : Int) (r1 : Int) (r2 : Int) (r3 : Int) (w : World) (h : colophonref01_divide.f k a0 a1 a2 = some (r1, r2, r3)) :
    Calls Try.prog 41 #[.int .u64 a0, .int .u64 a1, .int .u64 a2] w fun e w' => e = .returned (.tuple #[.int .u64 r1, .int .u64 r2, .int .u64 r3]) ∧ Drawn0 w w' := by
  have H : (colophonref01_divide.l0 k a0 a1 a2 0 0 0 127) = some (r1, r2, r3) := h
  clear h
  have H' := Aside0.mk H
  clear H
  go_enter Try.func41, Try.ntmps41
  go_wp2
  go_loopg [9, 10, 11, 12] k (fun kq v9 v10 v11 v12 w' => ∃ (x9_1 : Int) (x10_1 : Int) (x11_1 : Int) (x12_1 : Int), v9 = .int .u64 x9_1 ∧ v10 = .int .u64 x10_1 ∧ v11 = .int .u64 x11_1 ∧ v12 = .int .i64 x12_1 ∧ Aside0 (colophonref01_divide.l0 kq a0 a1 a2 x9_1 x10_1 x11_1 x12_1 = some (r1, r2, r3)) ∧ Aside0 (kq ≤ k) ∧ Drawn0 w w')
  case atStart => exact ⟨(0), (0), (0), (127), (by first | rfl | (simp; done) | (simp [*]; done)), (by first | rfl | (simp; done) | (simp [*]; done)), (by first | rfl | (simp; done) | (simp [*]; done)), (by first | rfl | (simp; done) | (simp [*]; done)), H', ⟨Nat.le_refl _⟩, by repeat (first | exact Drawn0.refl _ | apply Drawn0.step)⟩
  case round =>
    clear H'
    try clear p2
    obtain ⟨x9_1, x10_1, x11_1, x12_1, rfl, rfl, rfl, rfl, HA, HK1, ⟨m1, rfl⟩⟩ := hrel
    cases gk with
    | zero => exact absurd HA.out (by simp [colophonref01_divide.l0])
    | succ k1 =>
      have H := HA.out
      clear HA
      simp only [colophonref01_divide.l0] at H
      by_cases c4 : x12_1 ≥ 0
      · rw [if_pos c4] at H
        have c4b0 : decide (0 ≤ x12_1) = true := decide_eq_true c4
        clear c4
        obtain ⟨ji5, hji5⟩ : ∃ j_ : Int, (IntKind.u64.wrap (Go.bits .and .i64 x12_1 63)) = j_ := ⟨_, rfl⟩
        replace H : (if 0 ≤ (ji5) then (if x12_1 ≥ 64 then (if 0 ≤ (IntKind.u64.wrap (wrap64 (x12_1 - 64))) then (if (Go.bits .or .u64 (IntKind.u64.wrap (x11_1 * 2)) (Go.bits .and .u64 (shr .u64 a0 (IntKind.u64.wrap (wrap64 (x12_1 - 64)))) 1)) ≥ a2 then (colophonref01_divide.l0 k1 a0 a1 a2 (Go.bits .or .u64 (IntKind.u64.wrap (x9_1 * 2)) (x10_1 / 9223372036854775808)) (Go.bits .or .u64 (IntKind.u64.wrap (x10_1 * 2)) 1) (IntKind.u64.wrap ((Go.bits .or .u64 (IntKind.u64.wrap (x11_1 * 2)) (Go.bits .and .u64 (shr .u64 a0 (IntKind.u64.wrap (wrap64 (x12_1 - 64)))) 1)) - a2)) (wrap64 (x12_1 - 1))) else (colophonref01_divide.l0 k1 a0 a1 a2 (Go.bits .or .u64 (IntKind.u64.wrap (x9_1 * 2)) (x10_1 / 9223372036854775808)) (IntKind.u64.wrap (x10_1 * 2)) (Go.bits .or .u64 (IntKind.u64.wrap (x11_1 * 2)) (Go.bits .and .u64 (shr .u64 a0 (IntKind.u64.wrap (wrap64 (x12_1 - 64)))) 1)) (wrap64 (x12_1 - 1)))) else (none)) else (if (Go.bits .or .u64 (IntKind.u64.wrap (x11_1 * 2)) (Go.bits .and .u64 (shr .u64 a1 (ji5)) 1)) ≥ a2 then (colophonref01_divide.l0 k1 a0 a1 a2 (Go.bits .or .u64 (IntKind.u64.wrap (x9_1 * 2)) (x10_1 / 9223372036854775808)) (Go.bits .or .u64 (IntKind.u64.wrap (x10_1 * 2)) 1) (IntKind.u64.wrap ((Go.bits .or .u64 (IntKind.u64.wrap (x11_1 * 2)) (Go.bits .and .u64 (shr .u64 a1 (ji5)) 1)) - a2)) (wrap64 (x12_1 - 1))) else (colophonref01_divide.l0 k1 a0 a1 a2 (Go.bits .or .u64 (IntKind.u64.wrap (x9_1 * 2)) (x10_1 / 9223372036854775808)) (IntKind.u64.wrap (x10_1 * 2)) (Go.bits .or .u64 (IntKind.u64.wrap (x11_1 * 2)) (Go.bits .and .u64 (shr .u64 a1 (ji5)) 1)) (wrap64 (x12_1 - 1))))) else (none)) = some (r1, r2, r3) := by first | (rw [hji5] at H; exact H) | (simp only [hji5] at H ⊢; exact H)
        by_cases c6 : 0 ≤ (ji5)
        · rw [if_pos c6] at H
          have c6b0 := eq_true c6
          have c6b1 : decide (0 ≤ (ji5)) = true := decide_eq_true c6
          clear c6
          obtain ⟨ji7, hji7⟩ : ∃ j_ : Int, (shr .u64 a1 (ji5)) = j_ := ⟨_, rfl⟩
          replace H : (if x12_1 ≥ 64 then (if 0 ≤ (IntKind.u64.wrap (wrap64 (x12_1 - 64))) then (if (Go.bits .or .u64 (IntKind.u64.wrap (x11_1 * 2)) (Go.bits .and .u64 (shr .u64 a0 (IntKind.u64.wrap (wrap64 (x12_1 - 64)))) 1)) ≥ a2 then (colophonref01_divide.l0 k1 a0 a1 a2 (Go.bits .or .u64 (IntKind.u64.wrap (x9_1 * 2)) (x10_1 / 9223372036854775808)) (Go.bits .or .u64 (IntKind.u64.wrap (x10_1 * 2)) 1) (IntKind.u64.wrap ((Go.bits .or .u64 (IntKind.u64.wrap (x11_1 * 2)) (Go.bits .and .u64 (shr .u64 a0 (IntKind.u64.wrap (wrap64 (x12_1 - 64)))) 1)) - a2)) (wrap64 (x12_1 - 1))) else (colophonref01_divide.l0 k1 a0 a1 a2 (Go.bits .or .u64 (IntKind.u64.wrap (x9_1 * 2)) (x10_1 / 9223372036854775808)) (IntKind.u64.wrap (x10_1 * 2)) (Go.bits .or .u64 (IntKind.u64.wrap (x11_1 * 2)) (Go.bits .and .u64 (shr .u64 a0 (IntKind.u64.wrap (wrap64 (x12_1 - 64)))) 1)) (wrap64 (x12_1 - 1)))) else (none)) else (if (Go.bits .or .u64 (IntKind.u64.wrap (x11_1 * 2)) (Go.bits .and .u64 (ji7) 1)) ≥ a2 then (colophonref01_divide.l0 k1 a0 a1 a2 (Go.bits .or .u64 (IntKind.u64.wrap (x9_1 * 2)) (x10_1 / 9223372036854775808)) (Go.bits .or .u64 (IntKind.u64.wrap (x10_1 * 2)) 1) (IntKind.u64.wrap ((Go.bits .or .u64 (IntKind.u64.wrap (x11_1 * 2)) (Go.bits .and .u64 (ji7) 1)) - a2)) (wrap64 (x12_1 - 1))) else (colophonref01_divide.l0 k1 a0 a1 a2 (Go.bits .or .u64 (IntKind.u64.wrap (x9_1 * 2)) (x10_1 / 9223372036854775808)) (IntKind.u64.wrap (x10_1 * 2)) (Go.bits .or .u64 (IntKind.u64.wrap (x11_1 * 2)) (Go.bits .and .u64 (ji7) 1)) (wrap64 (x12_1 - 1))))) = some (r1, r2, r3) := by first | (rw [hji7] at H; exact H) | (simp only [hji7] at H ⊢; exact H)
          have hji7_ : (a1 / 2 ^ min (ji5).toNat 64) = ji7 := hji7
          have hji7z : (ji5) ≤ 64 → (a1 / 2 ^ (ji5).toNat) = ji7 := shr_small hji7
          by_cases c8 : x12_1 ≥ 64
          · rw [if_pos c8] at H
            have c8b0 : decide (64 ≤ x12_1) = true := decide_eq_true c8
            clear c8
            obtain ⟨ji9, hji9⟩ : ∃ j_ : Int, (IntKind.u64.wrap (wrap64 (x12_1 - 64))) = j_ := ⟨_, rfl⟩
            replace H : (if 0 ≤ (ji9) then (if (Go.bits .or .u64 (IntKind.u64.wrap (x11_1 * 2)) (Go.bits .and .u64 (shr .u64 a0 (ji9)) 1)) ≥ a2 then (colophonref01_divide.l0 k1 a0 a1 a2 (Go.bits .or .u64 (IntKind.u64.wrap (x9_1 * 2)) (x10_1 / 9223372036854775808)) (Go.bits .or .u64 (IntKind.u64.wrap (x10_1 * 2)) 1) (IntKind.u64.wrap ((Go.bits .or .u64 (IntKind.u64.wrap (x11_1 * 2)) (Go.bits .and .u64 (shr .u64 a0 (ji9)) 1)) - a2)) (wrap64 (x12_1 - 1))) else (colophonref01_divide.l0 k1 a0 a1 a2 (Go.bits .or .u64 (IntKind.u64.wrap (x9_1 * 2)) (x10_1 / 9223372036854775808)) (IntKind.u64.wrap (x10_1 * 2)) (Go.bits .or .u64 (IntKind.u64.wrap (x11_1 * 2)) (Go.bits .and .u64 (shr .u64 a0 (ji9)) 1)) (wrap64 (x12_1 - 1)))) else (none)) = some (r1, r2, r3) := by first | (rw [hji9] at H; exact H) | (simp only [hji9] at H ⊢; exact H)
            by_cases c10 : 0 ≤ (ji9)
            · rw [if_pos c10] at H
              have c10b0 := eq_true c10
              have c10b1 : decide (0 ≤ (ji9)) = true := decide_eq_true c10
              clear c10
              obtain ⟨ji11, hji11⟩ : ∃ j_ : Int, (shr .u64 a0 (ji9)) = j_ := ⟨_, rfl⟩
              replace H : (if (Go.bits .or .u64 (IntKind.u64.wrap (x11_1 * 2)) (Go.bits .and .u64 (ji11) 1)) ≥ a2 then (colophonref01_divide.l0 k1 a0 a1 a2 (Go.bits .or .u64 (IntKind.u64.wrap (x9_1 * 2)) (x10_1 / 9223372036854775808)) (Go.bits .or .u64 (IntKind.u64.wrap (x10_1 * 2)) 1) (IntKind.u64.wrap ((Go.bits .or .u64 (IntKind.u64.wrap (x11_1 * 2)) (Go.bits .and .u64 (ji11) 1)) - a2)) (wrap64 (x12_1 - 1))) else (colophonref01_divide.l0 k1 a0 a1 a2 (Go.bits .or .u64 (IntKind.u64.wrap (x9_1 * 2)) (x10_1 / 9223372036854775808)) (IntKind.u64.wrap (x10_1 * 2)) (Go.bits .or .u64 (IntKind.u64.wrap (x11_1 * 2)) (Go.bits .and .u64 (ji11) 1)) (wrap64 (x12_1 - 1)))) = some (r1, r2, r3) := by first | (rw [hji11] at H; exact H) | (simp only [hji11] at H ⊢; exact H)
              have hji11_ : (a0 / 2 ^ min (ji9).toNat 64) = ji11 := hji11
              have hji11z : (ji9) ≤ 64 → (a0 / 2 ^ (ji9).toNat) = ji11 := shr_small hji11
              by_cases c12 : (Go.bits .or .u64 (IntKind.u64.wrap (x11_1 * 2)) (Go.bits .and .u64 (ji11) 1)) ≥ a2
              · rw [if_pos c12] at H
                have c12b0 : decide (a2 ≤ (Go.bits .or .u64 (IntKind.u64.wrap (x11_1 * 2)) (Go.bits .and .u64 (ji11) 1))) = true := decide_eq_true c12
                clear c12
                have H' := Aside0.mk H
                clear H
                go_wp2
                go_roundg k1
                case measure => have := HK1.out; omega
                case rel => exact ⟨(Go.bits .or .u64 (IntKind.u64.wrap (x9_1 * 2)) (x10_1 / 9223372036854775808)), (Go.bits .or .u64 (IntKind.u64.wrap (x10_1 * 2)) 1), (IntKind.u64.wrap ((Go.bits .or .u64 (IntKind.u64.wrap (x11_1 * 2)) (Go.bits .and .u64 (ji11) 1)) - a2)), (wrap64 (x12_1 - 1)), (by first | rfl | (simp; done) | (simp [*]; done)), (by first | rfl | (simp; done) | (simp [*]; done)), (by first | rfl | (simp; done) | (simp only [← hji11] <;> (first | rfl | simp)) | (simp [*]; done)), (by first | rfl | (simp; done) | (simp [*]; done)), H', ⟨by have := HK1.out; omega⟩, by repeat (first | exact Drawn0.refl _ | apply Drawn0.step)⟩
              · rw [if_neg c12] at H
                have c12b0 : decide (a2 ≤ (Go.bits .or .u64 (IntKind.u64.wrap (x11_1 * 2)) (Go.bits .and .u64 (ji11) 1))) = false := decide_eq_false c12
                clear c12
                have H' := Aside0.mk H
                clear H
                go_wp2
                go_roundg k1
                case measure => have := HK1.out; omega
                case rel => exact ⟨(Go.bits .or .u64 (IntKind.u64.wrap (x9_1 * 2)) (x10_1 / 9223372036854775808)), (IntKind.u64.wrap (x10_1 * 2)), (Go.bits .or .u64 (IntKind.u64.wrap (x11_1 * 2)) (Go.bits .and .u64 (ji11) 1)), (wrap64 (x12_1 - 1)), (by first | rfl | (simp; done) | (simp [*]; done)), (by first | rfl | (simp; done) | (simp [*]; done)), (by first | rfl | (simp; done) | (simp only [← hji11] <;> (first | rfl | simp)) | (simp [*]; done)), (by first | rfl | (simp; done) | (simp [*]; done)), H', ⟨by have := HK1.out; omega⟩, by repeat (first | exact Drawn0.refl _ | apply Drawn0.step)⟩
            · rw [if_neg c10] at H
              exact absurd H (by simp)
          · rw [if_neg c8] at H
            have c8b0 : decide (64 ≤ x12_1) = false := decide_eq_false c8
            clear c8
            by_cases c13 : (Go.bits .or .u64 (IntKind.u64.wrap (x11_1 * 2)) (Go.bits .and .u64 (ji7) 1)) ≥ a2
            · rw [if_pos c13] at H
              have c13b0 : decide (a2 ≤ (Go.bits .or .u64 (IntKind.u64.wrap (x11_1 * 2)) (Go.bits .and .u64 (ji7) 1))) = true := decide_eq_true c13
              clear c13
              have H' := Aside0.mk H
              clear H
              go_wp2
              go_roundg k1
              case measure => have := HK1.out; omega
              case rel => exact ⟨(Go.bits .or .u64 (IntKind.u64.wrap (x9_1 * 2)) (x10_1 / 9223372036854775808)), (Go.bits .or .u64 (IntKind.u64.wrap (x10_1 * 2)) 1), (IntKind.u64.wrap ((Go.bits .or .u64 (IntKind.u64.wrap (x11_1 * 2)) (Go.bits .and .u64 (ji7) 1)) - a2)), (wrap64 (x12_1 - 1)), (by first | rfl | (simp; done) | (simp [*]; done)), (by first | rfl | (simp; done) | (simp [*]; done)), (by first | rfl | (simp; done) | (simp only [← hji7] <;> (first | rfl | simp)) | (simp [*]; done)), (by first | rfl | (simp; done) | (simp [*]; done)), H', ⟨by have := HK1.out; omega⟩, by repeat (first | exact Drawn0.refl _ | apply Drawn0.step)⟩
            · rw [if_neg c13] at H
              have c13b0 : decide (a2 ≤ (Go.bits .or .u64 (IntKind.u64.wrap (x11_1 * 2)) (Go.bits .and .u64 (ji7) 1))) = false := decide_eq_false c13
              clear c13
              have H' := Aside0.mk H
              clear H
              go_wp2
              go_roundg k1
              case measure => have := HK1.out; omega
              case rel => exact ⟨(Go.bits .or .u64 (IntKind.u64.wrap (x9_1 * 2)) (x10_1 / 9223372036854775808)), (IntKind.u64.wrap (x10_1 * 2)), (Go.bits .or .u64 (IntKind.u64.wrap (x11_1 * 2)) (Go.bits .and .u64 (ji7) 1)), (wrap64 (x12_1 - 1)), (by first | rfl | (simp; done) | (simp [*]; done)), (by first | rfl | (simp; done) | (simp [*]; done)), (by first | rfl | (simp; done) | (simp only [← hji7] <;> (first | rfl | simp)) | (simp [*]; done)), (by first | rfl | (simp; done) | (simp [*]; done)), H', ⟨by have := HK1.out; omega⟩, by repeat (first | exact Drawn0.refl _ | apply Drawn0.step)⟩
        · rw [if_neg c6] at H
          exact absurd H (by simp)
      · rw [if_neg c4] at H
        have c4b0 : decide (0 ≤ x12_1) = false := decide_eq_false c4
        clear c4
        simp only [Option.some.injEq, Prod.mk.injEq] at H
        obtain ⟨rfl, rfl, rfl⟩ := H
        go_wp2
        go_ret3
        exact ⟨by first | rfl | (simp; done) | (simp [*]; done), by repeat (first | exact Drawn0.refl _ | apply Drawn0.step)⟩

/-! ### colophonref01_parts: function 37 -/
def colophonref01_parts.f (k : Nat) (a0 : Int) (a1 : Int) (a2 : Int) : Option (Bool × Int × Int) := (colophonref01_size.f a0).bind fun bt219 => ((colophonref01_size.f a1).bind fun bt221 => ((colophonref01_product.f bt219.1 bt221.1).bind fun bt223 => ((colophonref01_divide.f k bt223.1 bt223.2 (IntKind.u64.wrap (a2))).bind fun bt225 => (if bt225.1 = 0 then (if bt225.2.1 ≤ 1099511627776 then (if (bt219.2 != bt221.2) = true then (if bt223.1 = 0 then (some ((bt223.2 != 0), wrap64 (bt225.2.1), bt225.2.2)) else (some (true, wrap64 (bt225.2.1), bt225.2.2))) else (some (false, wrap64 (bt225.2.1), bt225.2.2))) else (if (bt219.2 != bt221.2) = true then (if bt223.1 = 0 then (some ((bt223.2 != 0), 1099511627777, bt225.2.2)) else (some (true, 1099511627777, bt225.2.2))) else (some (false, 1099511627777, bt225.2.2)))) else (if (bt219.2 != bt221.2) = true then (if bt223.1 = 0 then (some ((bt223.2 != 0), 1099511627777, bt225.2.2)) else (some (true, 1099511627777, bt225.2.2))) else (some (false, 1099511627777, bt225.2.2)))))))
theorem colophonref01_parts.mono : ∀ a0 a1 a2 k, LeO (colophonref01_parts.f k a0 a1 a2) (colophonref01_parts.f (k + 1) a0 a1 a2) := by
  intro a0 a1 a2 k
  unfold colophonref01_parts.f
  repeat' first
      | (with_reducible exact colophonref01_divide.mono _ _ _ _)
      | (with_reducible exact LeO.refl _)
      | (with_reducible exact LeO.none _)
      | (with_reducible refine LeO.ite ?_ ?_)
      | (with_reducible refine LeO.bind ?_ (fun _ => ?_))
      | exact colophonref01_divide.mono _ _ _ _
      | exact LeO.none _
      | refine LeO.ite ?_ ?_
      | refine LeO.bind ?_ (fun _ => ?_)
set_option maxHeartbeats 8000000 in
set_option maxRecDepth 100000 in
theorem colophonref01_parts.calls (k : Nat) (a0 : Int) (a1 : Int) (a2 : Int) (r1 : Bool) (r2 : Int) (r3 : Int) (w : World) (h : colophonref01_parts.f k a0 a1 a2 = some (r1, r2, r3)) :
    Calls Try.prog 37 #[.int .i64 a0, .int .i64 a1, .int .i64 a2] w fun e w' => e = .returned (.tuple #[.bool r1, .int .i64 r2, .int .u64 r3]) ∧ Drawn0 w w' := by
  have H : ((colophonref01_size.f a0).bind fun bt219 => ((colophonref01_size.f a1).bind fun bt221 => ((colophonref01_product.f bt219.1 bt221.1).bind fun bt223 => ((colophonref01_divide.f k bt223.1 bt223.2 (IntKind.u64.wrap (a2))).bind fun bt225 => (if bt225.1 = 0 then (if bt225.2.1 ≤ 1099511627776 then (if (bt219.2 != bt221.2) = true then (if bt223.1 = 0 then (some ((bt223.2 != 0), wrap64 (bt225.2.1), bt225.2.2)) else (some (true, wrap64 (bt225.2.1), bt225.2.2))) else (some (false, wrap64 (bt225.2.1), bt225.2.2))) else (if (bt219.2 != bt221.2) = true then (if bt223.1 = 0 then (some ((bt223.2 != 0), 1099511627777, bt225.2.2)) else (some (true, 1099511627777, bt225.2.2))) else (some (false, 1099511627777, bt225.2.2)))) else (if (bt219.2 != bt221.2) = true then (if bt223.1 = 0 then (some ((bt223.2 != 0), 1099511627777, bt225.2.2)) else (some (true, 1099511627777, bt225.2.2))) else (some (false, 1099511627777, bt225.2.2)))))))) = some (r1, r2, r3) := h
  clear h
  replace H := Option.bind_eq_some_iff.mp H
  obtain ⟨⟨t219, t220⟩, A40, H⟩ := H
  replace H : ((colophonref01_size.f a1).bind fun bt221 => ((colophonref01_product.f t219 bt221.1).bind fun bt223 => ((colophonref01_divide.f k bt223.1 bt223.2 (IntKind.u64.wrap (a2))).bind fun bt225 => (if bt225.1 = 0 then (if bt225.2.1 ≤ 1099511627776 then (if (t220 != bt221.2) = true then (if bt223.1 = 0 then (some ((bt223.2 != 0), wrap64 (bt225.2.1), bt225.2.2)) else (some (true, wrap64 (bt225.2.1), bt225.2.2))) else (some (false, wrap64 (bt225.2.1), bt225.2.2))) else (if (t220 != bt221.2) = true then (if bt223.1 = 0 then (some ((bt223.2 != 0), 1099511627777, bt225.2.2)) else (some (true, 1099511627777, bt225.2.2))) else (some (false, 1099511627777, bt225.2.2)))) else (if (t220 != bt221.2) = true then (if bt223.1 = 0 then (some ((bt223.2 != 0), 1099511627777, bt225.2.2)) else (some (true, 1099511627777, bt225.2.2))) else (some (false, 1099511627777, bt225.2.2))))))) = some (r1, r2, r3) := H
  have A4 := Aside0.mk A40
  clear A40
  replace H := Option.bind_eq_some_iff.mp H
  obtain ⟨⟨t221, t222⟩, A50, H⟩ := H
  replace H : ((colophonref01_product.f t219 t221).bind fun bt223 => ((colophonref01_divide.f k bt223.1 bt223.2 (IntKind.u64.wrap (a2))).bind fun bt225 => (if bt225.1 = 0 then (if bt225.2.1 ≤ 1099511627776 then (if (t220 != t222) = true then (if bt223.1 = 0 then (some ((bt223.2 != 0), wrap64 (bt225.2.1), bt225.2.2)) else (some (true, wrap64 (bt225.2.1), bt225.2.2))) else (some (false, wrap64 (bt225.2.1), bt225.2.2))) else (if (t220 != t222) = true then (if bt223.1 = 0 then (some ((bt223.2 != 0), 1099511627777, bt225.2.2)) else (some (true, 1099511627777, bt225.2.2))) else (some (false, 1099511627777, bt225.2.2)))) else (if (t220 != t222) = true then (if bt223.1 = 0 then (some ((bt223.2 != 0), 1099511627777, bt225.2.2)) else (some (true, 1099511627777, bt225.2.2))) else (some (false, 1099511627777, bt225.2.2)))))) = some (r1, r2, r3) := H
  have A5 := Aside0.mk A50
  clear A50
  replace H := Option.bind_eq_some_iff.mp H
  obtain ⟨⟨t223, t224⟩, A60, H⟩ := H
  replace H : ((colophonref01_divide.f k t223 t224 (IntKind.u64.wrap (a2))).bind fun bt225 => (if bt225.1 = 0 then (if bt225.2.1 ≤ 1099511627776 then (if (t220 != t222) = true then (if t223 = 0 then (some ((t224 != 0), wrap64 (bt225.2.1), bt225.2.2)) else (some (true, wrap64 (bt225.2.1), bt225.2.2))) else (some (false, wrap64 (bt225.2.1), bt225.2.2))) else (if (t220 != t222) = true then (if t223 = 0 then (some ((t224 != 0), 1099511627777, bt225.2.2)) else (some (true, 1099511627777, bt225.2.2))) else (some (false, 1099511627777, bt225.2.2)))) else (if (t220 != t222) = true then (if t223 = 0 then (some ((t224 != 0), 1099511627777, bt225.2.2)) else (some (true, 1099511627777, bt225.2.2))) else (some (false, 1099511627777, bt225.2.2))))) = some (r1, r2, r3) := H
  have A6 := Aside0.mk A60
  clear A60
  replace H := Option.bind_eq_some_iff.mp H
  obtain ⟨⟨t225, t226, t227⟩, A70, H⟩ := H
  replace H : (if t225 = 0 then (if t226 ≤ 1099511627776 then (if (t220 != t222) = true then (if t223 = 0 then (some ((t224 != 0), wrap64 (t226), t227)) else (some (true, wrap64 (t226), t227))) else (some (false, wrap64 (t226), t227))) else (if (t220 != t222) = true then (if t223 = 0 then (some ((t224 != 0), 1099511627777, t227)) else (some (true, 1099511627777, t227))) else (some (false, 1099511627777, t227)))) else (if (t220 != t222) = true then (if t223 = 0 then (some ((t224 != 0), 1099511627777, t227)) else (some (true, 1099511627777, t227))) else (some (false, 1099511627777, t227)))) = some (r1, r2, r3) := H
  have A7 := Aside0.mk A70
  clear A70
  by_cases c8 : t225 = 0
  · rw [if_pos c8] at H
    have c8b0 : (t225 == 0) = true := beq_iff_eq.mpr c8
    have c8b1 : (t225 != 0) = false := bne_eq_false_iff_eq.mpr c8
    clear c8
    by_cases c9 : t226 ≤ 1099511627776
    · rw [if_pos c9] at H
      have c9b0 : decide (t226 ≤ 1099511627776) = true := decide_eq_true c9
      clear c9
      by_cases c10 : (t220 != t222) = true
      · rw [if_pos c10] at H
        have c10b0 : (t220 != t222) = true := c10
        (try (have c10b1 : decide (t220 = t222) = false := by simpa using c10))
        (try (have c10b2 : (t220 == t222) = false := by simpa using c10))
        (try (have c10b3 : ¬ (t220 = t222) := by simpa using c10))
        clear c10
        by_cases c11 : t223 = 0
        · rw [if_pos c11] at H
          have c11b0 : (t223 == 0) = true := beq_iff_eq.mpr c11
          have c11b1 : (t223 != 0) = false := bne_eq_false_iff_eq.mpr c11
          clear c11
          simp only [Option.some.injEq, Prod.mk.injEq] at H
          obtain ⟨rfl, rfl, rfl⟩ := H
          go_enter Try.func37, Try.ntmps37
          go_wp2_with (first | ((with_reducible refine gate_callee (f := 39) rfl ?_); refine goesL_ (some 21) rfl rfl Try.func39 (by kernel_rfl) rfl #[.int .i64 a0] rfl (by (try simp only [List.map_toArray, List.map_cons, List.map_nil]); first | done | rfl | (simp only [List.length_drop, List.length_take]; rfl)) ?_; (with_reducible refine (colophonref01_size.calls a0 t219 t220 _ A4.out).mono ?_); rintro e w' ⟨rfl, ⟨nd, rfl⟩⟩; refine ⟨_, rfl, ?_⟩) | ((with_reducible refine gate_callee (f := 39) rfl ?_); refine goesL_ (some 26) rfl rfl Try.func39 (by kernel_rfl) rfl #[.int .i64 a1] rfl (by (try simp only [List.map_toArray, List.map_cons, List.map_nil]); first | done | rfl | (simp only [List.length_drop, List.length_take]; rfl)) ?_; (with_reducible refine (colophonref01_size.calls a1 t221 t222 _ A5.out).mono ?_); rintro e w' ⟨rfl, ⟨nd, rfl⟩⟩; refine ⟨_, rfl, ?_⟩) | ((with_reducible refine gate_callee (f := 40) rfl ?_); refine goesL_ (some 32) rfl rfl Try.func40 (by kernel_rfl) rfl #[.int .u64 t219, .int .u64 t221] rfl (by (try simp only [List.map_toArray, List.map_cons, List.map_nil]); first | done | rfl | (simp only [List.length_drop, List.length_take]; rfl)) ?_; (with_reducible refine (colophonref01_product.calls t219 t221 t223 t224 _ A6.out).mono ?_); rintro e w' ⟨rfl, ⟨nd, rfl⟩⟩; refine ⟨_, rfl, ?_⟩) | ((with_reducible refine gate_callee (f := 41) rfl ?_); refine goesL_ (some 40) rfl rfl Try.func41 (by kernel_rfl) rfl #[.int .u64 t223, .int .u64 t224, .int .u64 (IntKind.u64.wrap (a2))] rfl (by (try simp only [List.map_toArray, List.map_cons, List.map_nil]); first | done | rfl | (simp only [List.length_drop, List.length_take]; rfl)) ?_; (with_reducible refine (colophonref01_divide.calls k t223 t224 (IntKind.u64.wrap (a2)) t225 t226 t227 _ A7.out).mono ?_); rintro e w' ⟨rfl, ⟨nd, rfl⟩⟩; refine ⟨_, rfl, ?_⟩))
          go_ret3
          exact ⟨by first | rfl | (simp; done) | (simp [*]; done), by repeat (first | exact Drawn0.refl _ | apply Drawn0.step)⟩
        · rw [if_neg c11] at H
          have c11b0 : (t223 == 0) = false := beq_eq_false_iff_ne.mpr c11
          have c11b1 : (t223 != 0) = true := bne_iff_ne.mpr c11
          simp only [Option.some.injEq, Prod.mk.injEq] at H
          obtain ⟨rfl, rfl, rfl⟩ := H
          go_enter Try.func37, Try.ntmps37
          go_wp2_with (first | ((with_reducible refine gate_callee (f := 39) rfl ?_); refine goesL_ (some 21) rfl rfl Try.func39 (by kernel_rfl) rfl #[.int .i64 a0] rfl (by (try simp only [List.map_toArray, List.map_cons, List.map_nil]); first | done | rfl | (simp only [List.length_drop, List.length_take]; rfl)) ?_; (with_reducible refine (colophonref01_size.calls a0 t219 t220 _ A4.out).mono ?_); rintro e w' ⟨rfl, ⟨nd, rfl⟩⟩; refine ⟨_, rfl, ?_⟩) | ((with_reducible refine gate_callee (f := 39) rfl ?_); refine goesL_ (some 26) rfl rfl Try.func39 (by kernel_rfl) rfl #[.int .i64 a1] rfl (by (try simp only [List.map_toArray, List.map_cons, List.map_nil]); first | done | rfl | (simp only [List.length_drop, List.length_take]; rfl)) ?_; (with_reducible refine (colophonref01_size.calls a1 t221 t222 _ A5.out).mono ?_); rintro e w' ⟨rfl, ⟨nd, rfl⟩⟩; refine ⟨_, rfl, ?_⟩) | ((with_reducible refine gate_callee (f := 40) rfl ?_); refine goesL_ (some 32) rfl rfl Try.func40 (by kernel_rfl) rfl #[.int .u64 t219, .int .u64 t221] rfl (by (try simp only [List.map_toArray, List.map_cons, List.map_nil]); first | done | rfl | (simp only [List.length_drop, List.length_take]; rfl)) ?_; (with_reducible refine (colophonref01_product.calls t219 t221 t223 t224 _ A6.out).mono ?_); rintro e w' ⟨rfl, ⟨nd, rfl⟩⟩; refine ⟨_, rfl, ?_⟩) | ((with_reducible refine gate_callee (f := 41) rfl ?_); refine goesL_ (some 40) rfl rfl Try.func41 (by kernel_rfl) rfl #[.int .u64 t223, .int .u64 t224, .int .u64 (IntKind.u64.wrap (a2))] rfl (by (try simp only [List.map_toArray, List.map_cons, List.map_nil]); first | done | rfl | (simp only [List.length_drop, List.length_take]; rfl)) ?_; (with_reducible refine (colophonref01_divide.calls k t223 t224 (IntKind.u64.wrap (a2)) t225 t226 t227 _ A7.out).mono ?_); rintro e w' ⟨rfl, ⟨nd, rfl⟩⟩; refine ⟨_, rfl, ?_⟩))
          go_ret3
          exact ⟨by first | rfl | (simp; done) | (simp [*]; done), by repeat (first | exact Drawn0.refl _ | apply Drawn0.step)⟩
      · rw [if_neg c10] at H
        have c10b0 : (t220 != t222) = false := by simpa using c10
        (try (have c10b1 : decide (t220 = t222) = true := by simpa using c10))
        (try (have c10b2 : (t220 == t222) = true := by simpa using c10))
        clear c10
        simp only [Option.some.injEq, Prod.mk.injEq] at H
        obtain ⟨rfl, rfl, rfl⟩ := H
        go_enter Try.func37, Try.ntmps37
        go_wp2_with (first | ((with_reducible refine gate_callee (f := 39) rfl ?_); refine goesL_ (some 21) rfl rfl Try.func39 (by kernel_rfl) rfl #[.int .i64 a0] rfl (by (try simp only [List.map_toArray, List.map_cons, List.map_nil]); first | done | rfl | (simp only [List.length_drop, List.length_take]; rfl)) ?_; (with_reducible refine (colophonref01_size.calls a0 t219 t220 _ A4.out).mono ?_); rintro e w' ⟨rfl, ⟨nd, rfl⟩⟩; refine ⟨_, rfl, ?_⟩) | ((with_reducible refine gate_callee (f := 39) rfl ?_); refine goesL_ (some 26) rfl rfl Try.func39 (by kernel_rfl) rfl #[.int .i64 a1] rfl (by (try simp only [List.map_toArray, List.map_cons, List.map_nil]); first | done | rfl | (simp only [List.length_drop, List.length_take]; rfl)) ?_; (with_reducible refine (colophonref01_size.calls a1 t221 t222 _ A5.out).mono ?_); rintro e w' ⟨rfl, ⟨nd, rfl⟩⟩; refine ⟨_, rfl, ?_⟩) | ((with_reducible refine gate_callee (f := 40) rfl ?_); refine goesL_ (some 32) rfl rfl Try.func40 (by kernel_rfl) rfl #[.int .u64 t219, .int .u64 t221] rfl (by (try simp only [List.map_toArray, List.map_cons, List.map_nil]); first | done | rfl | (simp only [List.length_drop, List.length_take]; rfl)) ?_; (with_reducible refine (colophonref01_product.calls t219 t221 t223 t224 _ A6.out).mono ?_); rintro e w' ⟨rfl, ⟨nd, rfl⟩⟩; refine ⟨_, rfl, ?_⟩) | ((with_reducible refine gate_callee (f := 41) rfl ?_); refine goesL_ (some 40) rfl rfl Try.func41 (by kernel_rfl) rfl #[.int .u64 t223, .int .u64 t224, .int .u64 (IntKind.u64.wrap (a2))] rfl (by (try simp only [List.map_toArray, List.map_cons, List.map_nil]); first | done | rfl | (simp only [List.length_drop, List.length_take]; rfl)) ?_; (with_reducible refine (colophonref01_divide.calls k t223 t224 (IntKind.u64.wrap (a2)) t225 t226 t227 _ A7.out).mono ?_); rintro e w' ⟨rfl, ⟨nd, rfl⟩⟩; refine ⟨_, rfl, ?_⟩))
        go_ret3
        exact ⟨by first | rfl | (simp; done) | (simp [*]; done), by repeat (first | exact Drawn0.refl _ | apply Drawn0.step)⟩
    · rw [if_neg c9] at H
      have c9b0 : decide (t226 ≤ 1099511627776) = false := decide_eq_false c9
      clear c9
      by_cases c12 : (t220 != t222) = true
      · rw [if_pos c12] at H
        have c12b0 : (t220 != t222) = true := c12
        (try (have c12b1 : decide (t220 = t222) = false := by simpa using c12))
        (try (have c12b2 : (t220 == t222) = false := by simpa using c12))
        (try (have c12b3 : ¬ (t220 = t222) := by simpa using c12))
        clear c12
        by_cases c13 : t223 = 0
        · rw [if_pos c13] at H
          have c13b0 : (t223 == 0) = true := beq_iff_eq.mpr c13
          have c13b1 : (t223 != 0) = false := bne_eq_false_iff_eq.mpr c13
          clear c13
          simp only [Option.some.injEq, Prod.mk.injEq] at H
          obtain ⟨rfl, rfl, rfl⟩ := H
          go_enter Try.func37, Try.ntmps37
          go_wp2_with (first | ((with_reducible refine gate_callee (f := 39) rfl ?_); refine goesL_ (some 21) rfl rfl Try.func39 (by kernel_rfl) rfl #[.int .i64 a0] rfl (by (try simp only [List.map_toArray, List.map_cons, List.map_nil]); first | done | rfl | (simp only [List.length_drop, List.length_take]; rfl)) ?_; (with_reducible refine (colophonref01_size.calls a0 t219 t220 _ A4.out).mono ?_); rintro e w' ⟨rfl, ⟨nd, rfl⟩⟩; refine ⟨_, rfl, ?_⟩) | ((with_reducible refine gate_callee (f := 39) rfl ?_); refine goesL_ (some 26) rfl rfl Try.func39 (by kernel_rfl) rfl #[.int .i64 a1] rfl (by (try simp only [List.map_toArray, List.map_cons, List.map_nil]); first | done | rfl | (simp only [List.length_drop, List.length_take]; rfl)) ?_; (with_reducible refine (colophonref01_size.calls a1 t221 t222 _ A5.out).mono ?_); rintro e w' ⟨rfl, ⟨nd, rfl⟩⟩; refine ⟨_, rfl, ?_⟩) | ((with_reducible refine gate_callee (f := 40) rfl ?_); refine goesL_ (some 32) rfl rfl Try.func40 (by kernel_rfl) rfl #[.int .u64 t219, .int .u64 t221] rfl (by (try simp only [List.map_toArray, List.map_cons, List.map_nil]); first | done | rfl | (simp only [List.length_drop, List.length_take]; rfl)) ?_; (with_reducible refine (colophonref01_product.calls t219 t221 t223 t224 _ A6.out).mono ?_); rintro e w' ⟨rfl, ⟨nd, rfl⟩⟩; refine ⟨_, rfl, ?_⟩) | ((with_reducible refine gate_callee (f := 41) rfl ?_); refine goesL_ (some 40) rfl rfl Try.func41 (by kernel_rfl) rfl #[.int .u64 t223, .int .u64 t224, .int .u64 (IntKind.u64.wrap (a2))] rfl (by (try simp only [List.map_toArray, List.map_cons, List.map_nil]); first | done | rfl | (simp only [List.length_drop, List.length_take]; rfl)) ?_; (with_reducible refine (colophonref01_divide.calls k t223 t224 (IntKind.u64.wrap (a2)) t225 t226 t227 _ A7.out).mono ?_); rintro e w' ⟨rfl, ⟨nd, rfl⟩⟩; refine ⟨_, rfl, ?_⟩))
          go_ret3
          exact ⟨by first | rfl | (simp; done) | (simp [*]; done), by repeat (first | exact Drawn0.refl _ | apply Drawn0.step)⟩
        · rw [if_neg c13] at H
          have c13b0 : (t223 == 0) = false := beq_eq_false_iff_ne.mpr c13
          have c13b1 : (t223 != 0) = true := bne_iff_ne.mpr c13
          simp only [Option.some.injEq, Prod.mk.injEq] at H
          obtain ⟨rfl, rfl, rfl⟩ := H
          go_enter Try.func37, Try.ntmps37
          go_wp2_with (first | ((with_reducible refine gate_callee (f := 39) rfl ?_); refine goesL_ (some 21) rfl rfl Try.func39 (by kernel_rfl) rfl #[.int .i64 a0] rfl (by (try simp only [List.map_toArray, List.map_cons, List.map_nil]); first | done | rfl | (simp only [List.length_drop, List.length_take]; rfl)) ?_; (with_reducible refine (colophonref01_size.calls a0 t219 t220 _ A4.out).mono ?_); rintro e w' ⟨rfl, ⟨nd, rfl⟩⟩; refine ⟨_, rfl, ?_⟩) | ((with_reducible refine gate_callee (f := 39) rfl ?_); refine goesL_ (some 26) rfl rfl Try.func39 (by kernel_rfl) rfl #[.int .i64 a1] rfl (by (try simp only [List.map_toArray, List.map_cons, List.map_nil]); first | done | rfl | (simp only [List.length_drop, List.length_take]; rfl)) ?_; (with_reducible refine (colophonref01_size.calls a1 t221 t222 _ A5.out).mono ?_); rintro e w' ⟨rfl, ⟨nd, rfl⟩⟩; refine ⟨_, rfl, ?_⟩) | ((with_reducible refine gate_callee (f := 40) rfl ?_); refine goesL_ (some 32) rfl rfl Try.func40 (by kernel_rfl) rfl #[.int .u64 t219, .int .u64 t221] rfl (by (try simp only [List.map_toArray, List.map_cons, List.map_nil]); first | done | rfl | (simp only [List.length_drop, List.length_take]; rfl)) ?_; (with_reducible refine (colophonref01_product.calls t219 t221 t223 t224 _ A6.out).mono ?_); rintro e w' ⟨rfl, ⟨nd, rfl⟩⟩; refine ⟨_, rfl, ?_⟩) | ((with_reducible refine gate_callee (f := 41) rfl ?_); refine goesL_ (some 40) rfl rfl Try.func41 (by kernel_rfl) rfl #[.int .u64 t223, .int .u64 t224, .int .u64 (IntKind.u64.wrap (a2))] rfl (by (try simp only [List.map_toArray, List.map_cons, List.map_nil]); first | done | rfl | (simp only [List.length_drop, List.length_take]; rfl)) ?_; (with_reducible refine (colophonref01_divide.calls k t223 t224 (IntKind.u64.wrap (a2)) t225 t226 t227 _ A7.out).mono ?_); rintro e w' ⟨rfl, ⟨nd, rfl⟩⟩; refine ⟨_, rfl, ?_⟩))
          go_ret3
          exact ⟨by first | rfl | (simp; done) | (simp [*]; done), by repeat (first | exact Drawn0.refl _ | apply Drawn0.step)⟩
      · rw [if_neg c12] at H
        have c12b0 : (t220 != t222) = false := by simpa using c12
        (try (have c12b1 : decide (t220 = t222) = true := by simpa using c12))
        (try (have c12b2 : (t220 == t222) = true := by simpa using c12))
        clear c12
        simp only [Option.some.injEq, Prod.mk.injEq] at H
        obtain ⟨rfl, rfl, rfl⟩ := H
        go_enter Try.func37, Try.ntmps37
        go_wp2_with (first | ((with_reducible refine gate_callee (f := 39) rfl ?_); refine goesL_ (some 21) rfl rfl Try.func39 (by kernel_rfl) rfl #[.int .i64 a0] rfl (by (try simp only [List.map_toArray, List.map_cons, List.map_nil]); first | done | rfl | (simp only [List.length_drop, List.length_take]; rfl)) ?_; (with_reducible refine (colophonref01_size.calls a0 t219 t220 _ A4.out).mono ?_); rintro e w' ⟨rfl, ⟨nd, rfl⟩⟩; refine ⟨_, rfl, ?_⟩) | ((with_reducible refine gate_callee (f := 39) rfl ?_); refine goesL_ (some 26) rfl rfl Try.func39 (by kernel_rfl) rfl #[.int .i64 a1] rfl (by (try simp only [List.map_toArray, List.map_cons, List.map_nil]); first | done | rfl | (simp only [List.length_drop, List.length_take]; rfl)) ?_; (with_reducible refine (colophonref01_size.calls a1 t221 t222 _ A5.out).mono ?_); rintro e w' ⟨rfl, ⟨nd, rfl⟩⟩; refine ⟨_, rfl, ?_⟩) | ((with_reducible refine gate_callee (f := 40) rfl ?_); refine goesL_ (some 32) rfl rfl Try.func40 (by kernel_rfl) rfl #[.int .u64 t219, .int .u64 t221] rfl (by (try simp only [List.map_toArray, List.map_cons, List.map_nil]); first | done | rfl | (simp only [List.length_drop, List.length_take]; rfl)) ?_; (with_reducible refine (colophonref01_product.calls t219 t221 t223 t224 _ A6.out).mono ?_); rintro e w' ⟨rfl, ⟨nd, rfl⟩⟩; refine ⟨_, rfl, ?_⟩) | ((with_reducible refine gate_callee (f := 41) rfl ?_); refine goesL_ (some 40) rfl rfl Try.func41 (by kernel_rfl) rfl #[.int .u64 t223, .int .u64 t224, .int .u64 (IntKind.u64.wrap (a2))] rfl (by (try simp only [List.map_toArray, List.map_cons, List.map_nil]); first | done | rfl | (simp only [List.length_drop, List.length_take]; rfl)) ?_; (with_reducible refine (colophonref01_divide.calls k t223 t224 (IntKind.u64.wrap (a2)) t225 t226 t227 _ A7.out).mono ?_); rintro e w' ⟨rfl, ⟨nd, rfl⟩⟩; refine ⟨_, rfl, ?_⟩))
        go_ret3
        exact ⟨by first | rfl | (simp; done) | (simp [*]; done), by repeat (first | exact Drawn0.refl _ | apply Drawn0.step)⟩
  · rw [if_neg c8] at H
    have c8b0 : (t225 == 0) = false := beq_eq_false_iff_ne.mpr c8
    have c8b1 : (t225 != 0) = true := bne_iff_ne.mpr c8
    by_cases c14 : (t220 != t222) = true
    · rw [if_pos c14] at H
      have c14b0 : (t220 != t222) = true := c14
      (try (have c14b1 : decide (t220 = t222) = false := by simpa using c14))
      (try (have c14b2 : (t220 == t222) = false := by simpa using c14))
      (try (have c14b3 : ¬ (t220 = t222) := by simpa using c14))
      clear c14
      by_cases c15 : t223 = 0
      · rw [if_pos c15] at H
        have c15b0 : (t223 == 0) = true := beq_iff_eq.mpr c15
        have c15b1 : (t223 != 0) = false := bne_eq_false_iff_eq.mpr c15
        clear c15
        simp only [Option.some.injEq, Prod.mk.injEq] at H
        obtain ⟨rfl, rfl, rfl⟩ := H
        go_enter Try.func37, Try.ntmps37
        go_wp2_with (first | ((with_reducible refine gate_callee (f := 39) rfl ?_); refine goesL_ (some 21) rfl rfl Try.func39 (by kernel_rfl) rfl #[.int .i64 a0] rfl (by (try simp only [List.map_toArray, List.map_cons, List.map_nil]); first | done | rfl | (simp only [List.length_drop, List.length_take]; rfl)) ?_; (with_reducible refine (colophonref01_size.calls a0 t219 t220 _ A4.out).mono ?_); rintro e w' ⟨rfl, ⟨nd, rfl⟩⟩; refine ⟨_, rfl, ?_⟩) | ((with_reducible refine gate_callee (f := 39) rfl ?_); refine goesL_ (some 26) rfl rfl Try.func39 (by kernel_rfl) rfl #[.int .i64 a1] rfl (by (try simp only [List.map_toArray, List.map_cons, List.map_nil]); first | done | rfl | (simp only [List.length_drop, List.length_take]; rfl)) ?_; (with_reducible refine (colophonref01_size.calls a1 t221 t222 _ A5.out).mono ?_); rintro e w' ⟨rfl, ⟨nd, rfl⟩⟩; refine ⟨_, rfl, ?_⟩) | ((with_reducible refine gate_callee (f := 40) rfl ?_); refine goesL_ (some 32) rfl rfl Try.func40 (by kernel_rfl) rfl #[.int .u64 t219, .int .u64 t221] rfl (by (try simp only [List.map_toArray, List.map_cons, List.map_nil]); first | done | rfl | (simp only [List.length_drop, List.length_take]; rfl)) ?_; (with_reducible refine (colophonref01_product.calls t219 t221 t223 t224 _ A6.out).mono ?_); rintro e w' ⟨rfl, ⟨nd, rfl⟩⟩; refine ⟨_, rfl, ?_⟩) | ((with_reducible refine gate_callee (f := 41) rfl ?_); refine goesL_ (some 40) rfl rfl Try.func41 (by kernel_rfl) rfl #[.int .u64 t223, .int .u64 t224, .int .u64 (IntKind.u64.wrap (a2))] rfl (by (try simp only [List.map_toArray, List.map_cons, List.map_nil]); first | done | rfl | (simp only [List.length_drop, List.length_take]; rfl)) ?_; (with_reducible refine (colophonref01_divide.calls k t223 t224 (IntKind.u64.wrap (a2)) t225 t226 t227 _ A7.out).mono ?_); rintro e w' ⟨rfl, ⟨nd, rfl⟩⟩; refine ⟨_, rfl, ?_⟩))
        go_ret3
        exact ⟨by first | rfl | (simp; done) | (simp [*]; done), by repeat (first | exact Drawn0.refl _ | apply Drawn0.step)⟩
      · rw [if_neg c15] at H
        have c15b0 : (t223 == 0) = false := beq_eq_false_iff_ne.mpr c15
        have c15b1 : (t223 != 0) = true := bne_iff_ne.mpr c15
        simp only [Option.some.injEq, Prod.mk.injEq] at H
        obtain ⟨rfl, rfl, rfl⟩ := H
        go_enter Try.func37, Try.ntmps37
        go_wp2_with (first | ((with_reducible refine gate_callee (f := 39) rfl ?_); refine goesL_ (some 21) rfl rfl Try.func39 (by kernel_rfl) rfl #[.int .i64 a0] rfl (by (try simp only [List.map_toArray, List.map_cons, List.map_nil]); first | done | rfl | (simp only [List.length_drop, List.length_take]; rfl)) ?_; (with_reducible refine (colophonref01_size.calls a0 t219 t220 _ A4.out).mono ?_); rintro e w' ⟨rfl, ⟨nd, rfl⟩⟩; refine ⟨_, rfl, ?_⟩) | ((with_reducible refine gate_callee (f := 39) rfl ?_); refine goesL_ (some 26) rfl rfl Try.func39 (by kernel_rfl) rfl #[.int .i64 a1] rfl (by (try simp only [List.map_toArray, List.map_cons, List.map_nil]); first | done | rfl | (simp only [List.length_drop, List.length_take]; rfl)) ?_; (with_reducible refine (colophonref01_size.calls a1 t221 t222 _ A5.out).mono ?_); rintro e w' ⟨rfl, ⟨nd, rfl⟩⟩; refine ⟨_, rfl, ?_⟩) | ((with_reducible refine gate_callee (f := 40) rfl ?_); refine goesL_ (some 32) rfl rfl Try.func40 (by kernel_rfl) rfl #[.int .u64 t219, .int .u64 t221] rfl (by (try simp only [List.map_toArray, List.map_cons, List.map_nil]); first | done | rfl | (simp only [List.length_drop, List.length_take]; rfl)) ?_; (with_reducible refine (colophonref01_product.calls t219 t221 t223 t224 _ A6.out).mono ?_); rintro e w' ⟨rfl, ⟨nd, rfl⟩⟩; refine ⟨_, rfl, ?_⟩) | ((with_reducible refine gate_callee (f := 41) rfl ?_); refine goesL_ (some 40) rfl rfl Try.func41 (by kernel_rfl) rfl #[.int .u64 t223, .int .u64 t224, .int .u64 (IntKind.u64.wrap (a2))] rfl (by (try simp only [List.map_toArray, List.map_cons, List.map_nil]); first | done | rfl | (simp only [List.length_drop, List.length_take]; rfl)) ?_; (with_reducible refine (colophonref01_divide.calls k t223 t224 (IntKind.u64.wrap (a2)) t225 t226 t227 _ A7.out).mono ?_); rintro e w' ⟨rfl, ⟨nd, rfl⟩⟩; refine ⟨_, rfl, ?_⟩))
        go_ret3
        exact ⟨by first | rfl | (simp; done) | (simp [*]; done), by repeat (first | exact Drawn0.refl _ | apply Drawn0.step)⟩
    · rw [if_neg c14] at H
      have c14b0 : (t220 != t222) = false := by simpa using c14
      (try (have c14b1 : decide (t220 = t222) = true := by simpa using c14))
      (try (have c14b2 : (t220 == t222) = true := by simpa using c14))
      clear c14
      simp only [Option.some.injEq, Prod.mk.injEq] at H
      obtain ⟨rfl, rfl, rfl⟩ := H
      go_enter Try.func37, Try.ntmps37
      go_wp2_with (first | ((with_reducible refine gate_callee (f := 39) rfl ?_); refine goesL_ (some 21) rfl rfl Try.func39 (by kernel_rfl) rfl #[.int .i64 a0] rfl (by (try simp only [List.map_toArray, List.map_cons, List.map_nil]); first | done | rfl | (simp only [List.length_drop, List.length_take]; rfl)) ?_; (with_reducible refine (colophonref01_size.calls a0 t219 t220 _ A4.out).mono ?_); rintro e w' ⟨rfl, ⟨nd, rfl⟩⟩; refine ⟨_, rfl, ?_⟩) | ((with_reducible refine gate_callee (f := 39) rfl ?_); refine goesL_ (some 26) rfl rfl Try.func39 (by kernel_rfl) rfl #[.int .i64 a1] rfl (by (try simp only [List.map_toArray, List.map_cons, List.map_nil]); first | done | rfl | (simp only [List.length_drop, List.length_take]; rfl)) ?_; (with_reducible refine (colophonref01_size.calls a1 t221 t222 _ A5.out).mono ?_); rintro e w' ⟨rfl, ⟨nd, rfl⟩⟩; refine ⟨_, rfl, ?_⟩) | ((with_reducible refine gate_callee (f := 40) rfl ?_); refine goesL_ (some 32) rfl rfl Try.func40 (by kernel_rfl) rfl #[.int .u64 t219, .int .u64 t221] rfl (by (try simp only [List.map_toArray, List.map_cons, List.map_nil]); first | done | rfl | (simp only [List.length_drop, List.length_take]; rfl)) ?_; (with_reducible refine (colophonref01_product.calls t219 t221 t223 t224 _ A6.out).mono ?_); rintro e w' ⟨rfl, ⟨nd, rfl⟩⟩; refine ⟨_, rfl, ?_⟩) | ((with_reducible refine gate_callee (f := 41) rfl ?_); refine goesL_ (some 40) rfl rfl Try.func41 (by kernel_rfl) rfl #[.int .u64 t223, .int .u64 t224, .int .u64 (IntKind.u64.wrap (a2))] rfl (by (try simp only [List.map_toArray, List.map_cons, List.map_nil]); first | done | rfl | (simp only [List.length_drop, List.length_take]; rfl)) ?_; (with_reducible refine (colophonref01_divide.calls k t223 t224 (IntKind.u64.wrap (a2)) t225 t226 t227 _ A7.out).mono ?_); rintro e w' ⟨rfl, ⟨nd, rfl⟩⟩; refine ⟨_, rfl, ?_⟩))
      go_ret3
      exact ⟨by first | rfl | (simp; done) | (simp [*]; done), by repeat (first | exact Drawn0.refl _ | apply Drawn0.step)⟩

/-! ### colophonref01_Floor: function 26 -/
def colophonref01_Floor.f (k : Nat) (a0 : Int) (a1 : Int) (a2 : Int) : Option (Int × Bool) := if a2 < 1 then (some (0, false)) else ((colophonref01_parts.f k a0 a1 a2).bind fun bt228 => (if bt228.1 = true then (if bt228.2.2 = 0 then ((colophonref01_told.f (wrap64 (-bt228.2.1))).bind fun bt231 => (some (bt231.1, bt231.2))) else ((colophonref01_told.f (wrap64 (-(wrap64 (bt228.2.1 + 1))))).bind fun bt233 => (some (bt233.1, bt233.2)))) else ((colophonref01_told.f bt228.2.1).bind fun bt235 => (some (bt235.1, bt235.2)))))
theorem colophonref01_Floor.mono : ∀ a0 a1 a2 k, LeO (colophonref01_Floor.f k a0 a1 a2) (colophonref01_Floor.f (k + 1) a0 a1 a2) := by
  intro a0 a1 a2 k
  unfold colophonref01_Floor.f
  repeat' first
      | (with_reducible exact colophonref01_parts.mono _ _ _ _)
      | (with_reducible exact LeO.refl _)
      | (with_reducible exact LeO.none _)
      | (with_reducible refine LeO.ite ?_ ?_)
      | (with_reducible refine LeO.bind ?_ (fun _ => ?_))
      | exact colophonref01_parts.mono _ _ _ _
      | exact LeO.none _
      | refine LeO.ite ?_ ?_
      | refine LeO.bind ?_ (fun _ => ?_)
set_option maxHeartbeats 8000000 in
set_option maxRecDepth 100000 in
theorem colophonref01_Floor.calls (k : Nat) (a0 : Int) (a1 : Int) (a2 : Int) (r1 : Int) (r2 : Bool) (w : World) (h : colophonref01_Floor.f k a0 a1 a2 = some (r1, r2)) :
    Calls Try.prog 26 #[.int .i64 a0, .int .i64 a1, .int .i64 a2] w fun e w' => e = .returned (.tuple #[.int .i64 r1, .bool r2]) ∧ Drawn0 w w' := by
  have H : (if a2 < 1 then (some (0, false)) else ((colophonref01_parts.f k a0 a1 a2).bind fun bt228 => (if bt228.1 = true then (if bt228.2.2 = 0 then ((colophonref01_told.f (wrap64 (-bt228.2.1))).bind fun bt231 => (some (bt231.1, bt231.2))) else ((colophonref01_told.f (wrap64 (-(wrap64 (bt228.2.1 + 1))))).bind fun bt233 => (some (bt233.1, bt233.2)))) else ((colophonref01_told.f bt228.2.1).bind fun bt235 => (some (bt235.1, bt235.2)))))) = some (r1, r2) := h
  clear h
  by_cases c4 : a2 < 1
  · rw [if_pos c4] at H
    have c4b0 : decide (a2 < 1) = true := decide_eq_true c4
    clear c4
    simp only [Option.some.injEq, Prod.mk.injEq] at H
    obtain ⟨rfl, rfl⟩ := H
    go_enter Try.func26, Try.ntmps26
    go_wp2
    go_ret2
    exact ⟨by first | rfl | (simp; done) | (simp [*]; done), by repeat (first | exact Drawn0.refl _ | apply Drawn0.step)⟩
  · rw [if_neg c4] at H
    have c4b0 : decide (a2 < 1) = false := decide_eq_false c4
    clear c4
    replace H := Option.bind_eq_some_iff.mp H
    obtain ⟨⟨t228, t229, t230⟩, A50, H⟩ := H
    replace H : (if t228 = true then (if t230 = 0 then ((colophonref01_told.f (wrap64 (-t229))).bind fun bt231 => (some (bt231.1, bt231.2))) else ((colophonref01_told.f (wrap64 (-(wrap64 (t229 + 1))))).bind fun bt233 => (some (bt233.1, bt233.2)))) else ((colophonref01_told.f t229).bind fun bt235 => (some (bt235.1, bt235.2)))) = some (r1, r2) := H
    have A5 := Aside0.mk A50
    clear A50
    by_cases c6 : t228 = true
    · subst c6
      have H1 : (if t230 = 0 then ((colophonref01_told.f (wrap64 (-t229))).bind fun bt231 => (some (bt231.1, bt231.2))) else ((colophonref01_told.f (wrap64 (-(wrap64 (t229 + 1))))).bind fun bt233 => (some (bt233.1, bt233.2)))) = some (r1, r2) := by rw [if_pos rfl] at H; exact H
      clear H
      have H := H1
      clear H1
      by_cases c7 : t230 = 0
      · rw [if_pos c7] at H
        have c7b0 : (t230 == 0) = true := beq_iff_eq.mpr c7
        have c7b1 : (t230 != 0) = false := bne_eq_false_iff_eq.mpr c7
        clear c7
        replace H := Option.bind_eq_some_iff.mp H
        obtain ⟨⟨t231, t232⟩, A80, H⟩ := H
        replace H : (some (t231, t232)) = some (r1, r2) := H
        have A8 := Aside0.mk A80
        clear A80
        simp only [Option.some.injEq, Prod.mk.injEq] at H
        obtain ⟨rfl, rfl⟩ := H
        go_enter Try.func26, Try.ntmps26
        go_wp2_with (first | ((with_reducible refine gate_callee (f := 37) rfl ?_); refine goesL_ (some 17) rfl rfl Try.func37 (by kernel_rfl) rfl #[.int .i64 a0, .int .i64 a1, .int .i64 a2] rfl (by (try simp only [List.map_toArray, List.map_cons, List.map_nil]); first | done | rfl | (simp only [List.length_drop, List.length_take]; rfl)) ?_; (with_reducible refine (colophonref01_parts.calls k a0 a1 a2 true t229 t230 _ A5.out).mono ?_); rintro e w' ⟨rfl, ⟨nd, rfl⟩⟩; refine ⟨_, rfl, ?_⟩) | ((with_reducible refine gate_callee (f := 32) rfl ?_); refine goesL_ (some 33) rfl rfl Try.func32 (by kernel_rfl) rfl #[.int .i64 (wrap64 (-t229))] rfl (by (try simp only [List.map_toArray, List.map_cons, List.map_nil]); first | done | rfl | (simp only [List.length_drop, List.length_take]; rfl)) ?_; (with_reducible refine (colophonref01_told.calls (wrap64 (-t229)) t231 t232 _ A8.out).mono ?_); rintro e w' ⟨rfl, ⟨nd, rfl⟩⟩; refine ⟨_, rfl, ?_⟩))
        go_ret2
        exact ⟨by first | rfl | (simp; done) | (simp [*]; done), by repeat (first | exact Drawn0.refl _ | apply Drawn0.step)⟩
      · rw [if_neg c7] at H
        have c7b0 : (t230 == 0) = false := beq_eq_false_iff_ne.mpr c7
        have c7b1 : (t230 != 0) = true := bne_iff_ne.mpr c7
        replace H := Option.bind_eq_some_iff.mp H
        obtain ⟨⟨t233, t234⟩, A90, H⟩ := H
        replace H : (some (t233, t234)) = some (r1, r2) := H
        have A9 := Aside0.mk A90
        clear A90
        simp only [Option.some.injEq, Prod.mk.injEq] at H
        obtain ⟨rfl, rfl⟩ := H
        go_enter Try.func26, Try.ntmps26
        go_wp2_with (first | ((with_reducible refine gate_callee (f := 37) rfl ?_); refine goesL_ (some 17) rfl rfl Try.func37 (by kernel_rfl) rfl #[.int .i64 a0, .int .i64 a1, .int .i64 a2] rfl (by (try simp only [List.map_toArray, List.map_cons, List.map_nil]); first | done | rfl | (simp only [List.length_drop, List.length_take]; rfl)) ?_; (with_reducible refine (colophonref01_parts.calls k a0 a1 a2 true t229 t230 _ A5.out).mono ?_); rintro e w' ⟨rfl, ⟨nd, rfl⟩⟩; refine ⟨_, rfl, ?_⟩) | ((with_reducible refine gate_callee (f := 32) rfl ?_); refine goesL_ (some 33) rfl rfl Try.func32 (by kernel_rfl) rfl #[.int .i64 (wrap64 (-(wrap64 (t229 + 1))))] rfl (by (try simp only [List.map_toArray, List.map_cons, List.map_nil]); first | done | rfl | (simp only [List.length_drop, List.length_take]; rfl)) ?_; (with_reducible refine (colophonref01_told.calls (wrap64 (-(wrap64 (t229 + 1)))) t233 t234 _ A9.out).mono ?_); rintro e w' ⟨rfl, ⟨nd, rfl⟩⟩; refine ⟨_, rfl, ?_⟩))
        go_ret2
        exact ⟨by first | rfl | (simp; done) | (simp [*]; done), by repeat (first | exact Drawn0.refl _ | apply Drawn0.step)⟩
    · replace c6 := Bool.eq_false_iff.mpr c6
      subst c6
      have H1 : ((colophonref01_told.f t229).bind fun bt235 => (some (bt235.1, bt235.2))) = some (r1, r2) := by rw [if_neg (show ¬ (false = true) by decide)] at H; exact H
      clear H
      have H := H1
      clear H1
      replace H := Option.bind_eq_some_iff.mp H
      obtain ⟨⟨t235, t236⟩, A100, H⟩ := H
      replace H : (some (t235, t236)) = some (r1, r2) := H
      have A10 := Aside0.mk A100
      clear A100
      simp only [Option.some.injEq, Prod.mk.injEq] at H
      obtain ⟨rfl, rfl⟩ := H
      go_enter Try.func26, Try.ntmps26
      go_wp2_with (first | ((with_reducible refine gate_callee (f := 37) rfl ?_); refine goesL_ (some 17) rfl rfl Try.func37 (by kernel_rfl) rfl #[.int .i64 a0, .int .i64 a1, .int .i64 a2] rfl (by (try simp only [List.map_toArray, List.map_cons, List.map_nil]); first | done | rfl | (simp only [List.length_drop, List.length_take]; rfl)) ?_; (with_reducible refine (colophonref01_parts.calls k a0 a1 a2 false t229 t230 _ A5.out).mono ?_); rintro e w' ⟨rfl, ⟨nd, rfl⟩⟩; refine ⟨_, rfl, ?_⟩) | ((with_reducible refine gate_callee (f := 32) rfl ?_); refine goesL_ (some 24) rfl rfl Try.func32 (by kernel_rfl) rfl #[.int .i64 t229] rfl (by (try simp only [List.map_toArray, List.map_cons, List.map_nil]); first | done | rfl | (simp only [List.length_drop, List.length_take]; rfl)) ?_; (with_reducible refine (colophonref01_told.calls t229 t235 t236 _ A10.out).mono ?_); rintro e w' ⟨rfl, ⟨nd, rfl⟩⟩; refine ⟨_, rfl, ?_⟩))
      go_ret2
      exact ⟨by first | rfl | (simp; done) | (simp [*]; done), by repeat (first | exact Drawn0.refl _ | apply Drawn0.step)⟩

/-! ### colophonlaw01_FixedFloors: function 7 -/
def colophonlaw01_FixedFloors.f (k : Nat) (a0 : Int) (a1 : Int) (a2 : Int) : Option (Bool) := (fixed_Floor.f k a0 a1 a2).bind fun bt237 => ((colophonref01_Floor.f k a0 a1 a2).bind fun bt239 => (if bt237.1 = bt239.1 then (if (bt237.2 == bt239.2) = true then ((colophonlaw01_wakes.f).bind fun t241 => (some t241)) else (some false)) else (some false)))
theorem colophonlaw01_FixedFloors.mono : ∀ a0 a1 a2 k, LeO (colophonlaw01_FixedFloors.f k a0 a1 a2) (colophonlaw01_FixedFloors.f (k + 1) a0 a1 a2) := by
  intro a0 a1 a2 k
  unfold colophonlaw01_FixedFloors.f
  repeat' first
      | (with_reducible exact colophonref01_Floor.mono _ _ _ _)
      | (with_reducible exact fixed_Floor.mono _ _ _ _)
      | (with_reducible exact LeO.refl _)
      | (with_reducible exact LeO.none _)
      | (with_reducible refine LeO.ite ?_ ?_)
      | (with_reducible refine LeO.bind ?_ (fun _ => ?_))
      | exact colophonref01_Floor.mono _ _ _ _
      | exact fixed_Floor.mono _ _ _ _
      | exact LeO.none _
      | refine LeO.ite ?_ ?_
      | refine LeO.bind ?_ (fun _ => ?_)
set_option maxHeartbeats 8000000 in
set_option maxRecDepth 100000 in
theorem colophonlaw01_FixedFloors.calls (k : Nat) (a0 : Int) (a1 : Int) (a2 : Int) (r : Bool) (w : World) (h : colophonlaw01_FixedFloors.f k a0 a1 a2 = some r) :
    Calls Try.prog 7 #[.int .i64 a0, .int .i64 a1, .int .i64 a2] w fun e w' => e = .returned (.bool r) ∧ Drawn0 w w' := by
  have H : ((fixed_Floor.f k a0 a1 a2).bind fun bt237 => ((colophonref01_Floor.f k a0 a1 a2).bind fun bt239 => (if bt237.1 = bt239.1 then (if (bt237.2 == bt239.2) = true then ((colophonlaw01_wakes.f).bind fun t241 => (some t241)) else (some false)) else (some false)))) = some r := h
  clear h
  replace H := Option.bind_eq_some_iff.mp H
  obtain ⟨⟨t237, t238⟩, A40, H⟩ := H
  replace H : ((colophonref01_Floor.f k a0 a1 a2).bind fun bt239 => (if t237 = bt239.1 then (if (t238 == bt239.2) = true then ((colophonlaw01_wakes.f).bind fun t241 => (some t241)) else (some false)) else (some false))) = some r := H
  have A4 := Aside0.mk A40
  clear A40
  replace H := Option.bind_eq_some_iff.mp H
  obtain ⟨⟨t239, t240⟩, A50, H⟩ := H
  replace H : (if t237 = t239 then (if (t238 == t240) = true then ((colophonlaw01_wakes.f).bind fun t241 => (some t241)) else (some false)) else (some false)) = some r := H
  have A5 := Aside0.mk A50
  clear A50
  by_cases c6 : t237 = t239
  · rw [if_pos c6] at H
    have c6b0 : (t237 == t239) = true := beq_iff_eq.mpr c6
    have c6b1 : (t237 != t239) = false := bne_eq_false_iff_eq.mpr c6
    clear c6
    by_cases c7 : (t238 == t240) = true
    · rw [if_pos c7] at H
      have c7b0 : (t238 == t240) = true := c7
      (try (have c7b1 : decide (t238 = t240) = true := by simpa using c7))
      (try (have c7b2 : (t238 == t240) = true := by simpa using c7))
      clear c7
      replace H := Option.bind_eq_some_iff.mp H
      obtain ⟨t241, A80, H⟩ := H
      replace H : (some t241) = some r := H
      have A8 := Aside0.mk A80
      clear A80
      obtain rfl := Option.some.inj H
      go_enter Try.func7, Try.ntmps7
      go_wp2_with (first | ((with_reducible refine gate_callee (f := 25) rfl ?_); refine goesL_ (some 15) rfl rfl Try.func25 (by kernel_rfl) rfl #[.int .i64 a0, .int .i64 a1, .int .i64 a2] rfl (by (try simp only [List.map_toArray, List.map_cons, List.map_nil]); first | done | rfl | (simp only [List.length_drop, List.length_take]; rfl)) ?_; (with_reducible refine (fixed_Floor.calls k a0 a1 a2 t237 t238 _ A4.out).mono ?_); rintro e w' ⟨rfl, ⟨nd, rfl⟩⟩; refine ⟨_, rfl, ?_⟩) | ((with_reducible refine gate_callee (f := 26) rfl ?_); refine goesL_ (some 22) rfl rfl Try.func26 (by kernel_rfl) rfl #[.int .i64 a0, .int .i64 a1, .int .i64 a2] rfl (by (try simp only [List.map_toArray, List.map_cons, List.map_nil]); first | done | rfl | (simp only [List.length_drop, List.length_take]; rfl)) ?_; (with_reducible refine (colophonref01_Floor.calls k a0 a1 a2 t239 t240 _ A5.out).mono ?_); rintro e w' ⟨rfl, ⟨nd, rfl⟩⟩; refine ⟨_, rfl, ?_⟩) | (go_at_call 18; (with_reducible refine (colophonlaw01_wakes.calls  t241 _ A8.out).mono ?_); rintro e w' ⟨rfl, ⟨nd, rfl⟩⟩))
      go_ret
      exact ⟨by first | rfl | (simp; done) | (simp [*]; done), by repeat (first | exact Drawn0.refl _ | apply Drawn0.step)⟩
    · rw [if_neg c7] at H
      have c7b0 : (t238 == t240) = false := by simpa using c7
      (try (have c7b1 : decide (t238 = t240) = false := by simpa using c7))
      (try (have c7b2 : (t238 == t240) = false := by simpa using c7))
      (try (have c7b3 : ¬ (t238 = t240) := by simpa using c7))
      clear c7
      obtain rfl := Option.some.inj H
      go_enter Try.func7, Try.ntmps7
      go_wp2_with (first | ((with_reducible refine gate_callee (f := 25) rfl ?_); refine goesL_ (some 15) rfl rfl Try.func25 (by kernel_rfl) rfl #[.int .i64 a0, .int .i64 a1, .int .i64 a2] rfl (by (try simp only [List.map_toArray, List.map_cons, List.map_nil]); first | done | rfl | (simp only [List.length_drop, List.length_take]; rfl)) ?_; (with_reducible refine (fixed_Floor.calls k a0 a1 a2 t237 t238 _ A4.out).mono ?_); rintro e w' ⟨rfl, ⟨nd, rfl⟩⟩; refine ⟨_, rfl, ?_⟩) | ((with_reducible refine gate_callee (f := 26) rfl ?_); refine goesL_ (some 22) rfl rfl Try.func26 (by kernel_rfl) rfl #[.int .i64 a0, .int .i64 a1, .int .i64 a2] rfl (by (try simp only [List.map_toArray, List.map_cons, List.map_nil]); first | done | rfl | (simp only [List.length_drop, List.length_take]; rfl)) ?_; (with_reducible refine (colophonref01_Floor.calls k a0 a1 a2 t239 t240 _ A5.out).mono ?_); rintro e w' ⟨rfl, ⟨nd, rfl⟩⟩; refine ⟨_, rfl, ?_⟩))
      go_ret
      exact ⟨by first | rfl | (simp; done) | (simp [*]; done), by repeat (first | exact Drawn0.refl _ | apply Drawn0.step)⟩
  · rw [if_neg c6] at H
    have c6b0 : (t237 == t239) = false := beq_eq_false_iff_ne.mpr c6
    have c6b1 : (t237 != t239) = true := bne_iff_ne.mpr c6
    obtain rfl := Option.some.inj H
    go_enter Try.func7, Try.ntmps7
    go_wp2_with (first | ((with_reducible refine gate_callee (f := 25) rfl ?_); refine goesL_ (some 15) rfl rfl Try.func25 (by kernel_rfl) rfl #[.int .i64 a0, .int .i64 a1, .int .i64 a2] rfl (by (try simp only [List.map_toArray, List.map_cons, List.map_nil]); first | done | rfl | (simp only [List.length_drop, List.length_take]; rfl)) ?_; (with_reducible refine (fixed_Floor.calls k a0 a1 a2 t237 t238 _ A4.out).mono ?_); rintro e w' ⟨rfl, ⟨nd, rfl⟩⟩; refine ⟨_, rfl, ?_⟩) | ((with_reducible refine gate_callee (f := 26) rfl ?_); refine goesL_ (some 22) rfl rfl Try.func26 (by kernel_rfl) rfl #[.int .i64 a0, .int .i64 a1, .int .i64 a2] rfl (by (try simp only [List.map_toArray, List.map_cons, List.map_nil]); first | done | rfl | (simp only [List.length_drop, List.length_take]; rfl)) ?_; (with_reducible refine (colophonref01_Floor.calls k a0 a1 a2 t239 t240 _ A5.out).mono ?_); rintro e w' ⟨rfl, ⟨nd, rfl⟩⟩; refine ⟨_, rfl, ?_⟩))
    go_ret
    exact ⟨by first | rfl | (simp; done) | (simp [*]; done), by repeat (first | exact Drawn0.refl _ | apply Drawn0.step)⟩

/-- THE ONE PURE STATEMENT of colophonlaw01_FixedFloors: yours. -/
def colophonlaw01_FixedFloors.Pure : Prop := ∀ (a0 : Int) (a1 : Int) (a2 : Int), (Lit.int .i64 a0).wf = true → (Lit.int .i64 a1).wf = true → (Lit.int .i64 a2).wf = true → ∃ k, colophonlaw01_FixedFloors.f k a0 a1 a2 = some true
theorem colophonlaw01_FixedFloors.walk (P : colophonlaw01_FixedFloors.Pure) (a0 : Int) (a1 : Int) (a2 : Int) (w : World) (w0 : (Lit.int .i64 a0).wf = true) (w1 : (Lit.int .i64 a1).wf = true) (w2 : (Lit.int .i64 a2).wf = true) :
    Calls Try.prog 7 #[.int .i64 a0, .int .i64 a1, .int .i64 a2] w fun e w' => e = .returned (.bool true) ∧ Below w.heap.size w w' := by
  obtain ⟨k, h⟩ := P a0 a1 a2 w0 w1 w2
  refine (colophonlaw01_FixedFloors.calls k a0 a1 a2 true w h).mono ?_
  rintro e w' ⟨rfl, hd⟩
  exact ⟨rfl, hd.below⟩

/-! ### fixed_Scale: function 27 -/
def fixed_Scale.j0 : Nat → Int → Bool → Bool → Bool → Option (Int × Bool)
  | 0, _, _, _, _ => none
  | k + 1, x8, x10, x11, x46 => if x46 = true then ((fixed_signed.f (IntKind.u64.wrap (x8 + 1)) x10).bind fun t246 => ((fixed_kept.f t246 x11).bind fun bt247 => (some (bt247.1, bt247.2)))) else ((fixed_signed.f x8 x10).bind fun t249 => ((fixed_kept.f t249 x11).bind fun bt250 => (some (bt250.1, bt250.2))))
def fixed_Scale.f (k : Nat) (a0 : Int) (a1 : Int) (a2 : Int) : Option (Int × Bool) := if a2 < 1 then (some (0, false)) else ((fixed_quotient.f k a0 a1 a2).bind fun bt242 => (if bt242.2.2.1 = true then (if bt242.2.1 > (IntKind.u64.wrap ((IntKind.u64.wrap (a2)) - bt242.2.1)) then (fixed_Scale.j0 k bt242.1 bt242.2.2.1 bt242.2.2.2 true) else (fixed_Scale.j0 k bt242.1 bt242.2.2.1 bt242.2.2.2 false)) else (if bt242.2.1 > 0 then (fixed_Scale.j0 k bt242.1 bt242.2.2.1 bt242.2.2.2 (decide (bt242.2.1 ≥ (IntKind.u64.wrap ((IntKind.u64.wrap (a2)) - bt242.2.1))))) else (fixed_Scale.j0 k bt242.1 bt242.2.2.1 bt242.2.2.2 false))))
theorem fixed_Scale.mono_l : ∀ k, (∀ y0 y1 y2 y3, LeO (fixed_Scale.j0 k y0 y1 y2 y3) (fixed_Scale.j0 (k + 1) y0 y1 y2 y3))
  | 0 => fun _ _ _ _ r h => by simp [fixed_Scale.j0] at h
  | k + 1 => by
    have ih0 := fixed_Scale.mono_l k
    · intro y0 y1 y2 y3
      unfold fixed_Scale.j0
      repeat' first
      | (with_reducible exact ih0 _ _ _ _)
      | (with_reducible exact fixed_quotient.mono _ _ _ _)
      | (with_reducible exact LeO.refl _)
      | (with_reducible exact LeO.none _)
      | (with_reducible refine LeO.ite ?_ ?_)
      | (with_reducible refine LeO.bind ?_ (fun _ => ?_))
      | exact ih0 _ _ _ _
      | exact fixed_quotient.mono _ _ _ _
      | exact LeO.none _
      | refine LeO.ite ?_ ?_
      | refine LeO.bind ?_ (fun _ => ?_)
theorem fixed_Scale.mono : ∀ a0 a1 a2 k, LeO (fixed_Scale.f k a0 a1 a2) (fixed_Scale.f (k + 1) a0 a1 a2) := by
  intro a0 a1 a2 k
  have ih0 := fixed_Scale.mono_l k
  unfold fixed_Scale.f
  repeat' first
      | (with_reducible exact ih0 _ _ _ _)
      | (with_reducible exact fixed_quotient.mono _ _ _ _)
      | (with_reducible exact LeO.refl _)
      | (with_reducible exact LeO.none _)
      | (with_reducible refine LeO.ite ?_ ?_)
      | (with_reducible refine LeO.bind ?_ (fun _ => ?_))
      | exact ih0 _ _ _ _
      | exact fixed_quotient.mono _ _ _ _
      | exact LeO.none _
      | refine LeO.ite ?_ ?_
      | refine LeO.bind ?_ (fun _ => ?_)
set_option maxHeartbeats 8000000 in
set_option maxRecDepth 100000 in
theorem fixed_Scale.calls (k : Nat) (a0 : Int) (a1 : Int) (a2 : Int) (r1 : Int) (r2 : Bool) (w : World) (h : fixed_Scale.f k a0 a1 a2 = some (r1, r2)) :
    Calls Try.prog 27 #[.int .i64 a0, .int .i64 a1, .int .i64 a2] w fun e w' => e = .returned (.tuple #[.int .i64 r1, .bool r2]) ∧ Drawn0 w w' := by
  have H : (if a2 < 1 then (some (0, false)) else ((fixed_quotient.f k a0 a1 a2).bind fun bt242 => (if bt242.2.2.1 = true then (if bt242.2.1 > (IntKind.u64.wrap ((IntKind.u64.wrap (a2)) - bt242.2.1)) then (fixed_Scale.j0 k bt242.1 bt242.2.2.1 bt242.2.2.2 true) else (fixed_Scale.j0 k bt242.1 bt242.2.2.1 bt242.2.2.2 false)) else (if bt242.2.1 > 0 then (fixed_Scale.j0 k bt242.1 bt242.2.2.1 bt242.2.2.2 (decide (bt242.2.1 ≥ (IntKind.u64.wrap ((IntKind.u64.wrap (a2)) - bt242.2.1))))) else (fixed_Scale.j0 k bt242.1 bt242.2.2.1 bt242.2.2.2 false))))) = some (r1, r2) := h
  clear h
  by_cases c4 : a2 < 1
  · rw [if_pos c4] at H
    have c4b0 : decide (a2 < 1) = true := decide_eq_true c4
    clear c4
    simp only [Option.some.injEq, Prod.mk.injEq] at H
    obtain ⟨rfl, rfl⟩ := H
    go_enter Try.func27, Try.ntmps27
    go_wp2
    go_ret2
    exact ⟨by first | rfl | (simp; done) | (simp [*]; done), by repeat (first | exact Drawn0.refl _ | apply Drawn0.step)⟩
  · rw [if_neg c4] at H
    have c4b0 : decide (a2 < 1) = false := decide_eq_false c4
    clear c4
    replace H := Option.bind_eq_some_iff.mp H
    obtain ⟨⟨t242, t243, t244, t245⟩, A50, H⟩ := H
    replace H : (if t244 = true then (if t243 > (IntKind.u64.wrap ((IntKind.u64.wrap (a2)) - t243)) then (fixed_Scale.j0 k t242 t244 t245 true) else (fixed_Scale.j0 k t242 t244 t245 false)) else (if t243 > 0 then (fixed_Scale.j0 k t242 t244 t245 (decide (t243 ≥ (IntKind.u64.wrap ((IntKind.u64.wrap (a2)) - t243))))) else (fixed_Scale.j0 k t242 t244 t245 false))) = some (r1, r2) := H
    have A5 := Aside0.mk A50
    clear A50
    have HC6 := Aside0.mk H
    clear H
    go_enter Try.func27, Try.ntmps27
    go_upto_region 5 with (first | ((with_reducible refine gate_callee (f := 36) rfl ?_); refine goesL_ (some 19) rfl rfl Try.func36 (by kernel_rfl) rfl #[.int .i64 a0, .int .i64 a1, .int .i64 a2] rfl (by (try simp only [List.map_toArray, List.map_cons, List.map_nil]); first | done | rfl | (simp only [List.length_drop, List.length_take]; rfl)) ?_; (with_reducible refine (fixed_quotient.calls k a0 a1 a2 t242 t243 t244 t245 _ A5.out).mono ?_); rintro e w' ⟨rfl, ⟨nd, rfl⟩⟩; refine ⟨_, rfl, ?_⟩))
    (try simp only [Act.put, List.setIfInBounds_toArray, List.set_cons_zero, List.set_cons_succ])
    go_cut [46] (fun v46 wc => ∃ (kq : Nat) (x46_5 : Bool), v46 = .bool x46_5 ∧ Aside0 (fixed_Scale.j0 kq t242 t244 t245 x46_5 = some (r1, r2)) ∧ Aside0 (kq ≤ k) ∧ Drawn0 w wc)
    case first =>
      have H := HC6.out
      clear HC6
      by_cases c7 : t244 = true
      · subst c7
        have H1 : (if t243 > (IntKind.u64.wrap ((IntKind.u64.wrap (a2)) - t243)) then (fixed_Scale.j0 k t242 true t245 true) else (fixed_Scale.j0 k t242 true t245 false)) = some (r1, r2) := by rw [if_pos rfl] at H; exact H
        clear H
        have H := H1
        clear H1
        by_cases c8 : t243 > (IntKind.u64.wrap ((IntKind.u64.wrap (a2)) - t243))
        · rw [if_pos c8] at H
          have c8b0 : decide ((IntKind.u64.wrap ((IntKind.u64.wrap (a2)) - t243)) < t243) = true := decide_eq_true c8
          clear c8
          (first | rw [c8b0] | (simp only [i64_w, i32_w]; rw [c8b0]) | skip)
          have H' := Aside0.mk H
          clear H
          go_wp2
          go_meet
          case rel => exact ⟨_, (true), (by first | rfl | (simp; done) | (simp [*]; done)), H', ⟨by first | omega | exact Nat.le_refl _⟩, by repeat (first | exact Drawn0.refl _ | apply Drawn0.step)⟩
        · rw [if_neg c8] at H
          have c8b0 : decide ((IntKind.u64.wrap ((IntKind.u64.wrap (a2)) - t243)) < t243) = false := decide_eq_false c8
          clear c8
          (first | rw [c8b0] | (simp only [i64_w, i32_w]; rw [c8b0]) | skip)
          have H' := Aside0.mk H
          clear H
          go_wp2
          go_meet
          case rel => exact ⟨_, (false), (by first | rfl | (simp; done) | (simp [*]; done)), H', ⟨by first | omega | exact Nat.le_refl _⟩, by repeat (first | exact Drawn0.refl _ | apply Drawn0.step)⟩
      · replace c7 := Bool.eq_false_iff.mpr c7
        subst c7
        have H1 : (if t243 > 0 then (fixed_Scale.j0 k t242 false t245 (decide (t243 ≥ (IntKind.u64.wrap ((IntKind.u64.wrap (a2)) - t243))))) else (fixed_Scale.j0 k t242 false t245 false)) = some (r1, r2) := by rw [if_neg (show ¬ (false = true) by decide)] at H; exact H
        clear H
        have H := H1
        clear H1
        by_cases c9 : t243 > 0
        · rw [if_pos c9] at H
          have c9b0 : decide (0 < t243) = true := decide_eq_true c9
          clear c9
          have H' := Aside0.mk H
          clear H
          go_wp2
          go_meet
          case rel => exact ⟨_, (decide (t243 ≥ (IntKind.u64.wrap ((IntKind.u64.wrap (a2)) - t243)))), (by first | rfl | (simp; done) | (simp [*]; done)), H', ⟨by first | omega | exact Nat.le_refl _⟩, by repeat (first | exact Drawn0.refl _ | apply Drawn0.step)⟩
        · rw [if_neg c9] at H
          have c9b0 : decide (0 < t243) = false := decide_eq_false c9
          clear c9
          have H' := Aside0.mk H
          clear H
          go_wp2
          go_meet
          case rel => exact ⟨_, (false), (by first | rfl | (simp; done) | (simp [*]; done)), H', ⟨by first | omega | exact Nat.le_refl _⟩, by repeat (first | exact Drawn0.refl _ | apply Drawn0.step)⟩
    case rest =>
      clear HC6
      try clear c2
      try clear p2
      try clear c3
      try clear c4
      try clear c4b0
      try clear c7
      try clear c8
      try clear c8b0
      try clear c9
      try clear c9b0
      obtain ⟨kq, x46_5, rfl, HA, HJ5, ⟨mc5, rfl⟩⟩ := hcut
      cases kq with
      | zero => exact absurd HA.out (by simp [fixed_Scale.j0])
      | succ kj5 =>
        have H := HA.out
        clear HA
        simp only [fixed_Scale.j0] at H
        by_cases c10 : x46_5 = true
        · subst c10
          have H1 : ((fixed_signed.f (IntKind.u64.wrap (t242 + 1)) t244).bind fun t246 => ((fixed_kept.f t246 t245).bind fun bt247 => (some (bt247.1, bt247.2)))) = some (r1, r2) := by rw [if_pos rfl] at H; exact H
          clear H
          have H := H1
          clear H1
          replace H := Option.bind_eq_some_iff.mp H
          obtain ⟨t246, A110, H⟩ := H
          replace H : ((fixed_kept.f t246 t245).bind fun bt247 => (some (bt247.1, bt247.2))) = some (r1, r2) := H
          have A11 := Aside0.mk A110
          clear A110
          replace H := Option.bind_eq_some_iff.mp H
          obtain ⟨⟨t247, t248⟩, A120, H⟩ := H
          replace H : (some (t247, t248)) = some (r1, r2) := H
          have A12 := Aside0.mk A120
          clear A120
          simp only [Option.some.injEq, Prod.mk.injEq] at H
          obtain ⟨rfl, rfl⟩ := H
          go_wp2_with (first | ((with_reducible refine gate_callee (f := 35) rfl ?_); refine goesL_ (some 51) rfl rfl Try.func35 (by kernel_rfl) rfl #[.int .u64 (IntKind.u64.wrap (t242 + 1)), .bool t244] rfl (by (try simp only [List.map_toArray, List.map_cons, List.map_nil]); first | done | rfl | (simp only [List.length_drop, List.length_take]; rfl)) ?_; (with_reducible refine (fixed_signed.calls (IntKind.u64.wrap (t242 + 1)) t244 t246 _ A11.out).mono ?_); rintro e w' ⟨rfl, ⟨nd, rfl⟩⟩; refine ⟨_, rfl, ?_⟩) | ((with_reducible refine gate_callee (f := 31) rfl ?_); refine goesL_ (some 53) rfl rfl Try.func31 (by kernel_rfl) rfl #[.int .i64 t246, .bool t245] rfl (by (try simp only [List.map_toArray, List.map_cons, List.map_nil]); first | done | rfl | (simp only [List.length_drop, List.length_take]; rfl)) ?_; (with_reducible refine (fixed_kept.calls t246 t245 t247 t248 _ A12.out).mono ?_); rintro e w' ⟨rfl, ⟨nd, rfl⟩⟩; refine ⟨_, rfl, ?_⟩))
          go_ret2
          exact ⟨by first | rfl | (simp; done) | (simp [*]; done), by repeat (first | exact Drawn0.refl _ | apply Drawn0.step)⟩
        · replace c10 := Bool.eq_false_iff.mpr c10
          subst c10
          have H1 : ((fixed_signed.f t242 t244).bind fun t249 => ((fixed_kept.f t249 t245).bind fun bt250 => (some (bt250.1, bt250.2)))) = some (r1, r2) := by rw [if_neg (show ¬ (false = true) by decide)] at H; exact H
          clear H
          have H := H1
          clear H1
          replace H := Option.bind_eq_some_iff.mp H
          obtain ⟨t249, A130, H⟩ := H
          replace H : ((fixed_kept.f t249 t245).bind fun bt250 => (some (bt250.1, bt250.2))) = some (r1, r2) := H
          have A13 := Aside0.mk A130
          clear A130
          replace H := Option.bind_eq_some_iff.mp H
          obtain ⟨⟨t250, t251⟩, A140, H⟩ := H
          replace H : (some (t250, t251)) = some (r1, r2) := H
          have A14 := Aside0.mk A140
          clear A140
          simp only [Option.some.injEq, Prod.mk.injEq] at H
          obtain ⟨rfl, rfl⟩ := H
          go_wp2_with (first | ((with_reducible refine gate_callee (f := 35) rfl ?_); refine goesL_ (some 51) rfl rfl Try.func35 (by kernel_rfl) rfl #[.int .u64 t242, .bool t244] rfl (by (try simp only [List.map_toArray, List.map_cons, List.map_nil]); first | done | rfl | (simp only [List.length_drop, List.length_take]; rfl)) ?_; (with_reducible refine (fixed_signed.calls t242 t244 t249 _ A13.out).mono ?_); rintro e w' ⟨rfl, ⟨nd, rfl⟩⟩; refine ⟨_, rfl, ?_⟩) | ((with_reducible refine gate_callee (f := 31) rfl ?_); refine goesL_ (some 53) rfl rfl Try.func31 (by kernel_rfl) rfl #[.int .i64 t249, .bool t245] rfl (by (try simp only [List.map_toArray, List.map_cons, List.map_nil]); first | done | rfl | (simp only [List.length_drop, List.length_take]; rfl)) ?_; (with_reducible refine (fixed_kept.calls t249 t245 t250 t251 _ A14.out).mono ?_); rintro e w' ⟨rfl, ⟨nd, rfl⟩⟩; refine ⟨_, rfl, ?_⟩))
          go_ret2
          exact ⟨by first | rfl | (simp; done) | (simp [*]; done), by repeat (first | exact Drawn0.refl _ | apply Drawn0.step)⟩

/-! ### colophonref01_Scale: function 28 -/
def colophonref01_Scale.j0 : Nat → Int → Option (Int × Bool)
  | 0, _ => none
  | k + 1, x9 => (colophonref01_told.f x9).bind fun bt259 => (some (bt259.1, bt259.2))
def colophonref01_Scale.f (k : Nat) (a0 : Int) (a1 : Int) (a2 : Int) : Option (Int × Bool) := if a2 < 1 then (some (0, false)) else ((colophonref01_parts.f k a0 a1 a2).bind fun bt252 => (if bt252.1 = true then (if (IntKind.u64.wrap (2 * bt252.2.2)) > (IntKind.u64.wrap (a2)) then ((colophonref01_told.f (wrap64 (-(wrap64 (bt252.2.1 + 1))))).bind fun bt255 => (some (bt255.1, bt255.2))) else ((colophonref01_told.f (wrap64 (-bt252.2.1))).bind fun bt257 => (some (bt257.1, bt257.2)))) else (if (IntKind.u64.wrap (2 * bt252.2.2)) ≥ (IntKind.u64.wrap (a2)) then (colophonref01_Scale.j0 k (wrap64 (bt252.2.1 + 1))) else (colophonref01_Scale.j0 k bt252.2.1))))
theorem colophonref01_Scale.mono_l : ∀ k, (∀ y0, LeO (colophonref01_Scale.j0 k y0) (colophonref01_Scale.j0 (k + 1) y0))
  | 0 => fun _ r h => by simp [colophonref01_Scale.j0] at h
  | k + 1 => by
    have ih0 := colophonref01_Scale.mono_l k
    · intro y0
      unfold colophonref01_Scale.j0
      repeat' first
      | (with_reducible exact ih0 _)
      | (with_reducible exact colophonref01_parts.mono _ _ _ _)
      | (with_reducible exact LeO.refl _)
      | (with_reducible exact LeO.none _)
      | (with_reducible refine LeO.ite ?_ ?_)
      | (with_reducible refine LeO.bind ?_ (fun _ => ?_))
      | exact ih0 _
      | exact colophonref01_parts.mono _ _ _ _
      | exact LeO.none _
      | refine LeO.ite ?_ ?_
      | refine LeO.bind ?_ (fun _ => ?_)
theorem colophonref01_Scale.mono : ∀ a0 a1 a2 k, LeO (colophonref01_Scale.f k a0 a1 a2) (colophonref01_Scale.f (k + 1) a0 a1 a2) := by
  intro a0 a1 a2 k
  have ih0 := colophonref01_Scale.mono_l k
  unfold colophonref01_Scale.f
  repeat' first
      | (with_reducible exact ih0 _)
      | (with_reducible exact colophonref01_parts.mono _ _ _ _)
      | (with_reducible exact LeO.refl _)
      | (with_reducible exact LeO.none _)
      | (with_reducible refine LeO.ite ?_ ?_)
      | (with_reducible refine LeO.bind ?_ (fun _ => ?_))
      | exact ih0 _
      | exact colophonref01_parts.mono _ _ _ _
      | exact LeO.none _
      | refine LeO.ite ?_ ?_
      | refine LeO.bind ?_ (fun _ => ?_)
set_option maxHeartbeats 8000000 in
set_option maxRecDepth 100000 in
theorem colophonref01_Scale.calls (k : Nat) (a0 : Int) (a1 : Int) (a2 : Int) (r1 : Int) (r2 : Bool) (w : World) (h : colophonref01_Scale.f k a0 a1 a2 = some (r1, r2)) :
    Calls Try.prog 28 #[.int .i64 a0, .int .i64 a1, .int .i64 a2] w fun e w' => e = .returned (.tuple #[.int .i64 r1, .bool r2]) ∧ Drawn0 w w' := by
  have H : (if a2 < 1 then (some (0, false)) else ((colophonref01_parts.f k a0 a1 a2).bind fun bt252 => (if bt252.1 = true then (if (IntKind.u64.wrap (2 * bt252.2.2)) > (IntKind.u64.wrap (a2)) then ((colophonref01_told.f (wrap64 (-(wrap64 (bt252.2.1 + 1))))).bind fun bt255 => (some (bt255.1, bt255.2))) else ((colophonref01_told.f (wrap64 (-bt252.2.1))).bind fun bt257 => (some (bt257.1, bt257.2)))) else (if (IntKind.u64.wrap (2 * bt252.2.2)) ≥ (IntKind.u64.wrap (a2)) then (colophonref01_Scale.j0 k (wrap64 (bt252.2.1 + 1))) else (colophonref01_Scale.j0 k bt252.2.1))))) = some (r1, r2) := h
  clear h
  by_cases c4 : a2 < 1
  · rw [if_pos c4] at H
    have c4b0 : decide (a2 < 1) = true := decide_eq_true c4
    clear c4
    simp only [Option.some.injEq, Prod.mk.injEq] at H
    obtain ⟨rfl, rfl⟩ := H
    go_enter Try.func28, Try.ntmps28
    go_wp2
    go_ret2
    exact ⟨by first | rfl | (simp; done) | (simp [*]; done), by repeat (first | exact Drawn0.refl _ | apply Drawn0.step)⟩
  · rw [if_neg c4] at H
    have c4b0 : decide (a2 < 1) = false := decide_eq_false c4
    clear c4
    replace H := Option.bind_eq_some_iff.mp H
    obtain ⟨⟨t252, t253, t254⟩, A50, H⟩ := H
    replace H : (if t252 = true then (if (IntKind.u64.wrap (2 * t254)) > (IntKind.u64.wrap (a2)) then ((colophonref01_told.f (wrap64 (-(wrap64 (t253 + 1))))).bind fun bt255 => (some (bt255.1, bt255.2))) else ((colophonref01_told.f (wrap64 (-t253))).bind fun bt257 => (some (bt257.1, bt257.2)))) else (if (IntKind.u64.wrap (2 * t254)) ≥ (IntKind.u64.wrap (a2)) then (colophonref01_Scale.j0 k (wrap64 (t253 + 1))) else (colophonref01_Scale.j0 k t253))) = some (r1, r2) := H
    have A5 := Aside0.mk A50
    clear A50
    by_cases c6 : t252 = true
    · subst c6
      have H1 : (if (IntKind.u64.wrap (2 * t254)) > (IntKind.u64.wrap (a2)) then ((colophonref01_told.f (wrap64 (-(wrap64 (t253 + 1))))).bind fun bt255 => (some (bt255.1, bt255.2))) else ((colophonref01_told.f (wrap64 (-t253))).bind fun bt257 => (some (bt257.1, bt257.2)))) = some (r1, r2) := by rw [if_pos rfl] at H; exact H
      clear H
      have H := H1
      clear H1
      by_cases c7 : (IntKind.u64.wrap (2 * t254)) > (IntKind.u64.wrap (a2))
      · rw [if_pos c7] at H
        have c7b0 : decide ((IntKind.u64.wrap (a2)) < (IntKind.u64.wrap (2 * t254))) = true := decide_eq_true c7
        clear c7
        replace H := Option.bind_eq_some_iff.mp H
        obtain ⟨⟨t255, t256⟩, A80, H⟩ := H
        replace H : (some (t255, t256)) = some (r1, r2) := H
        have A8 := Aside0.mk A80
        clear A80
        simp only [Option.some.injEq, Prod.mk.injEq] at H
        obtain ⟨rfl, rfl⟩ := H
        go_enter Try.func28, Try.ntmps28
        go_wp2_with (first | ((with_reducible refine gate_callee (f := 37) rfl ?_); refine goesL_ (some 17) rfl rfl Try.func37 (by kernel_rfl) rfl #[.int .i64 a0, .int .i64 a1, .int .i64 a2] rfl (by (try simp only [List.map_toArray, List.map_cons, List.map_nil]); first | done | rfl | (simp only [List.length_drop, List.length_take]; rfl)) ?_; (with_reducible refine (colophonref01_parts.calls k a0 a1 a2 true t253 t254 _ A5.out).mono ?_); rintro e w' ⟨rfl, ⟨nd, rfl⟩⟩; refine ⟨_, rfl, ?_⟩) | ((with_reducible refine gate_callee (f := 32) rfl ?_); refine goesL_ (some 43) rfl rfl Try.func32 (by kernel_rfl) rfl #[.int .i64 (wrap64 (-(wrap64 (t253 + 1))))] rfl (by (try simp only [List.map_toArray, List.map_cons, List.map_nil]); first | done | rfl | (simp only [List.length_drop, List.length_take]; rfl)) ?_; (with_reducible refine (colophonref01_told.calls (wrap64 (-(wrap64 (t253 + 1)))) t255 t256 _ A8.out).mono ?_); rintro e w' ⟨rfl, ⟨nd, rfl⟩⟩; refine ⟨_, rfl, ?_⟩))
        go_ret2
        exact ⟨by first | rfl | (simp; done) | (simp [*]; done), by repeat (first | exact Drawn0.refl _ | apply Drawn0.step)⟩
      · rw [if_neg c7] at H
        have c7b0 : decide ((IntKind.u64.wrap (a2)) < (IntKind.u64.wrap (2 * t254))) = false := decide_eq_false c7
        clear c7
        replace H := Option.bind_eq_some_iff.mp H
        obtain ⟨⟨t257, t258⟩, A90, H⟩ := H
        replace H : (some (t257, t258)) = some (r1, r2) := H
        have A9 := Aside0.mk A90
        clear A90
        simp only [Option.some.injEq, Prod.mk.injEq] at H
        obtain ⟨rfl, rfl⟩ := H
        go_enter Try.func28, Try.ntmps28
        go_wp2_with (first | ((with_reducible refine gate_callee (f := 37) rfl ?_); refine goesL_ (some 17) rfl rfl Try.func37 (by kernel_rfl) rfl #[.int .i64 a0, .int .i64 a1, .int .i64 a2] rfl (by (try simp only [List.map_toArray, List.map_cons, List.map_nil]); first | done | rfl | (simp only [List.length_drop, List.length_take]; rfl)) ?_; (with_reducible refine (colophonref01_parts.calls k a0 a1 a2 true t253 t254 _ A5.out).mono ?_); rintro e w' ⟨rfl, ⟨nd, rfl⟩⟩; refine ⟨_, rfl, ?_⟩) | ((with_reducible refine gate_callee (f := 32) rfl ?_); refine goesL_ (some 43) rfl rfl Try.func32 (by kernel_rfl) rfl #[.int .i64 (wrap64 (-t253))] rfl (by (try simp only [List.map_toArray, List.map_cons, List.map_nil]); first | done | rfl | (simp only [List.length_drop, List.length_take]; rfl)) ?_; (with_reducible refine (colophonref01_told.calls (wrap64 (-t253)) t257 t258 _ A9.out).mono ?_); rintro e w' ⟨rfl, ⟨nd, rfl⟩⟩; refine ⟨_, rfl, ?_⟩))
        go_ret2
        exact ⟨by first | rfl | (simp; done) | (simp [*]; done), by repeat (first | exact Drawn0.refl _ | apply Drawn0.step)⟩
    · replace c6 := Bool.eq_false_iff.mpr c6
      subst c6
      have H1 : (if (IntKind.u64.wrap (2 * t254)) ≥ (IntKind.u64.wrap (a2)) then (colophonref01_Scale.j0 k (wrap64 (t253 + 1))) else (colophonref01_Scale.j0 k t253)) = some (r1, r2) := by rw [if_neg (show ¬ (false = true) by decide)] at H; exact H
      clear H
      have H := H1
      clear H1
      have HC10 := Aside0.mk H
      clear H
      go_enter Try.func28, Try.ntmps28
      go_upto_if 27 with (first | ((with_reducible refine gate_callee (f := 37) rfl ?_); refine goesL_ (some 17) rfl rfl Try.func37 (by kernel_rfl) rfl #[.int .i64 a0, .int .i64 a1, .int .i64 a2] rfl (by (try simp only [List.map_toArray, List.map_cons, List.map_nil]); first | done | rfl | (simp only [List.length_drop, List.length_take]; rfl)) ?_; (with_reducible refine (colophonref01_parts.calls k a0 a1 a2 false t253 t254 _ A5.out).mono ?_); rintro e w' ⟨rfl, ⟨nd, rfl⟩⟩; refine ⟨_, rfl, ?_⟩))
      (try simp only [Act.put, List.setIfInBounds_toArray, List.set_cons_zero, List.set_cons_succ])
      go_cut [9] (fun v9 wc => ∃ (kq : Nat) (x9_9 : Int), v9 = .int .i64 x9_9 ∧ Aside0 (colophonref01_Scale.j0 kq x9_9 = some (r1, r2)) ∧ Aside0 (kq ≤ k) ∧ Drawn0 w wc)
      case first =>
        have H := HC10.out
        clear HC10
        by_cases c11 : (IntKind.u64.wrap (2 * t254)) ≥ (IntKind.u64.wrap (a2))
        · rw [if_pos c11] at H
          have c11b0 : decide ((IntKind.u64.wrap (a2)) ≤ (IntKind.u64.wrap (2 * t254))) = true := decide_eq_true c11
          clear c11
          (first | rw [c11b0] | (simp only [i64_w, i32_w]; rw [c11b0]) | skip)
          have H' := Aside0.mk H
          clear H
          go_wp2
          go_meet
          case rel => exact ⟨_, (wrap64 (t253 + 1)), (by first | rfl | (simp; done) | (simp [*]; done)), H', ⟨by first | omega | exact Nat.le_refl _⟩, by repeat (first | exact Drawn0.refl _ | apply Drawn0.step)⟩
        · rw [if_neg c11] at H
          have c11b0 : decide ((IntKind.u64.wrap (a2)) ≤ (IntKind.u64.wrap (2 * t254))) = false := decide_eq_false c11
          clear c11
          (first | rw [c11b0] | (simp only [i64_w, i32_w]; rw [c11b0]) | skip)
          have H' := Aside0.mk H
          clear H
          go_wp2
          go_meet
          case rel => exact ⟨_, (t253), (by first | rfl | (simp; done) | (simp [*]; done)), H', ⟨by first | omega | exact Nat.le_refl _⟩, by repeat (first | exact Drawn0.refl _ | apply Drawn0.step)⟩
      case rest =>
        clear HC10
        try clear c1
        try clear c2
        try clear p2
        try clear c3
        try clear c4
        try clear c4b0
        try clear c6
        try clear p6
        try clear c7
        try clear c7b0
        try clear c11
        try clear c11b0
        obtain ⟨kq, x9_9, rfl, HA, HJ9, ⟨mc9, rfl⟩⟩ := hcut
        cases kq with
        | zero => exact absurd HA.out (by simp [colophonref01_Scale.j0])
        | succ kj9 =>
          have H := HA.out
          clear HA
          simp only [colophonref01_Scale.j0] at H
          replace H := Option.bind_eq_some_iff.mp H
          obtain ⟨⟨t259, t260⟩, A120, H⟩ := H
          replace H : (some (t259, t260)) = some (r1, r2) := H
          have A12 := Aside0.mk A120
          clear A120
          simp only [Option.some.injEq, Prod.mk.injEq] at H
          obtain ⟨rfl, rfl⟩ := H
          go_wp2_with (first | ((with_reducible refine gate_callee (f := 32) rfl ?_); refine goesL_ (some 31) rfl rfl Try.func32 (by kernel_rfl) rfl #[.int .i64 x9_9] rfl (by (try simp only [List.map_toArray, List.map_cons, List.map_nil]); first | done | rfl | (simp only [List.length_drop, List.length_take]; rfl)) ?_; (with_reducible refine (colophonref01_told.calls x9_9 t259 t260 _ A12.out).mono ?_); rintro e w' ⟨rfl, ⟨nd, rfl⟩⟩; refine ⟨_, rfl, ?_⟩))
          go_ret2
          exact ⟨by first | rfl | (simp; done) | (simp [*]; done), by repeat (first | exact Drawn0.refl _ | apply Drawn0.step)⟩

end Go.Proofs.Ytamfhlafhkgapaa.Px
