-- Lean text written by this session's own program (wip/tools/myprint.py) for this claim
import Derived.Test.YtldcgkkbmnahiaaPxx0
import Derived.Test.YtldcgkkbmnahiaaPxx7
namespace Go.Proofs.Ytldcgkkbmnahiaa.Px
open Go.RowKit Go.Proofs.YtldcgkkbmnahiaaW.PrintWords Go.Proofs.YtldcgkkbmnahiaaW.PrintLast Go.Proofs.YtldcgkkbmnahiaaW.PrintMore
attribute [local go_sem] pw_max2 pw_min2 max_two min_two max_three min_three max_four min_four   -- for this text's walks alone
set_option linter.unusedVariables false
set_option linter.unusedSimpArgs false

/-! ### colophonref11_twelve: function 25 -/
mutual
def colophonref11_twelve.j0 : Nat → ByteArray → Int → Int → Bool → Option ((List (S47)) × Bool)
  | 0, _, _, _, _ => none
  | k + 1, x0, x1, x6, x48 => if x48 = true then (some (([] : List (S47)), false)) else (colophonref11_twelve.l0 k x0 x1 x6 (-1) 0)
def colophonref11_twelve.l0 : Nat → ByteArray → Int → Int → Int → Int → Option ((List (S47)) × Bool)
  | 0, _, _, _, _, _ => none
  | k + 1, x0, x1, x6, x7, x8 => if x8 < x6 then ((colophonref08_U4.f x0 (wrap64 (16 + (wrap64 (12 * x8))))).bind fun t242 => ((colophonref08_U4.f x0 (wrap64 (20 + (wrap64 (12 * x8))))).bind fun t243 => ((colophonref08_U4.f x0 (wrap64 (24 + (wrap64 (12 * x8))))).bind fun t244 => (if t242 > t243 then (some (([] : List (S47)), false)) else (if t242 ≤ x7 then (some (([] : List (S47)), false)) else (if t243 > 1114111 then (some (([] : List (S47)), false)) else (if (wrap64 ((wrap64 (t244 + t243)) - t242)) ≥ x1 then (some (([] : List (S47)), false)) else (colophonref11_twelve.l0 k x0 x1 x6 t243 (wrap64 (x8 + 1)))))))))) else (colophonref11_twelve.l1 k x0 x6 ([] : List (S47)) 0)
def colophonref11_twelve.l1 : Nat → ByteArray → Int → List (S47) → Int → Option ((List (S47)) × Bool)
  | 0, _, _, _, _ => none
  | k + 1, x0, x6, x12, x14 => if x14 < x6 then ((colophonref08_U4.f x0 (wrap64 (16 + (wrap64 (12 * x14))))).bind fun t245 => ((colophonref08_U4.f x0 (wrap64 (20 + (wrap64 (12 * x14))))).bind fun t246 => ((colophonref08_U4.f x0 (wrap64 (24 + (wrap64 (12 * x14))))).bind fun t247 => (colophonref11_twelve.l2 k x0 x6 x12 x14 t245 t246 t247 t245)))) else (some (x12, true))
def colophonref11_twelve.l2 : Nat → ByteArray → Int → List (S47) → Int → Int → Int → Int → Int → Option ((List (S47)) × Bool)
  | 0, _, _, _, _, _, _, _, _ => none
  | k + 1, x0, x6, x12, x14, x15, x16, x17, x18 => if x18 ≤ x16 then ((colophonref11_add.f k x12 x18 (wrap64 ((wrap64 (x17 + x18)) - x15))).bind fun bt248 => (if bt248.2 = true then (colophonref11_twelve.l2 k x0 x6 bt248.1 x14 x15 x16 x17 (wrap64 (x18 + 1))) else (some (([] : List (S47)), false)))) else (colophonref11_twelve.l1 k x0 x6 x12 (wrap64 (x14 + 1)))
end
def colophonref11_twelve.f (k : Nat) (a0 : ByteArray) (a1 : Int) : Option ((List (S47)) × Bool) := (colophonref08_U4.f a0 12).bind fun t240 => (if (a0.size : Int) < 16 then (colophonref11_twelve.j0 k a0 a1 t240 true) else (if 0 ≤ 4 then (if 4 ≤ (a0.size : Int) then (if (a0.extract 0 4).toList = ([0, 12, 0, 0] : List UInt8) then (if t240 > 4096 then (colophonref11_twelve.j0 k a0 a1 t240 true) else ((colophonref08_U4.f a0 4).bind fun t241 => (if t241 = (wrap64 (16 + (wrap64 (12 * t240)))) then (colophonref11_twelve.j0 k a0 a1 t240 (decide ((a0.size : Int) < (wrap64 (16 + (wrap64 (12 * t240))))))) else (colophonref11_twelve.j0 k a0 a1 t240 true)))) else (colophonref11_twelve.j0 k a0 a1 t240 true)) else (none)) else (none)))
theorem colophonref11_twelve.mono_l : ∀ k, (∀ y0 y1 y2 y3, LeO (colophonref11_twelve.j0 k y0 y1 y2 y3) (colophonref11_twelve.j0 (k + 1) y0 y1 y2 y3)) ∧ (∀ y0 y1 y2 y3 y4, LeO (colophonref11_twelve.l0 k y0 y1 y2 y3 y4) (colophonref11_twelve.l0 (k + 1) y0 y1 y2 y3 y4)) ∧ (∀ y0 y1 y2 y3, LeO (colophonref11_twelve.l1 k y0 y1 y2 y3) (colophonref11_twelve.l1 (k + 1) y0 y1 y2 y3)) ∧ (∀ y0 y1 y2 y3 y4 y5 y6 y7, LeO (colophonref11_twelve.l2 k y0 y1 y2 y3 y4 y5 y6 y7) (colophonref11_twelve.l2 (k + 1) y0 y1 y2 y3 y4 y5 y6 y7))
  | 0 => ⟨fun _ _ _ _ r h => by simp [colophonref11_twelve.j0] at h, fun _ _ _ _ _ r h => by simp [colophonref11_twelve.l0] at h, fun _ _ _ _ r h => by simp [colophonref11_twelve.l1] at h, fun _ _ _ _ _ _ _ _ r h => by simp [colophonref11_twelve.l2] at h⟩
  | k + 1 => by
    obtain ⟨ih0, ih1, ih2, ih3⟩ := colophonref11_twelve.mono_l k
    refine ⟨?_, ?_, ?_, ?_⟩
    · intro y0 y1 y2 y3
      unfold colophonref11_twelve.j0
      repeat' first
      | (with_reducible exact ih0 _ _ _ _)
      | (with_reducible exact ih1 _ _ _ _ _)
      | (with_reducible exact ih2 _ _ _ _)
      | (with_reducible exact ih3 _ _ _ _ _ _ _ _)
      | (with_reducible exact colophonref11_add.mono _ _ _ _)
      | (with_reducible exact LeO.refl _)
      | (with_reducible exact LeO.none _)
      | (with_reducible refine LeO.ite ?_ ?_)
      | (with_reducible refine LeO.bind ?_ (fun _ => ?_))
      | exact ih0 _ _ _ _
      | exact ih1 _ _ _ _ _
      | exact ih2 _ _ _ _
      | exact ih3 _ _ _ _ _ _ _ _
      | exact colophonref11_add.mono _ _ _ _
      | exact LeO.none _
      | refine LeO.ite ?_ ?_
      | refine LeO.bind ?_ (fun _ => ?_)
    · intro y0 y1 y2 y3 y4
      unfold colophonref11_twelve.l0
      repeat' first
      | (with_reducible exact ih0 _ _ _ _)
      | (with_reducible exact ih1 _ _ _ _ _)
      | (with_reducible exact ih2 _ _ _ _)
      | (with_reducible exact ih3 _ _ _ _ _ _ _ _)
      | (with_reducible exact colophonref11_add.mono _ _ _ _)
      | (with_reducible exact LeO.refl _)
      | (with_reducible exact LeO.none _)
      | (with_reducible refine LeO.ite ?_ ?_)
      | (with_reducible refine LeO.bind ?_ (fun _ => ?_))
      | exact ih0 _ _ _ _
      | exact ih1 _ _ _ _ _
      | exact ih2 _ _ _ _
      | exact ih3 _ _ _ _ _ _ _ _
      | exact colophonref11_add.mono _ _ _ _
      | exact LeO.none _
      | refine LeO.ite ?_ ?_
      | refine LeO.bind ?_ (fun _ => ?_)
    · intro y0 y1 y2 y3
      unfold colophonref11_twelve.l1
      repeat' first
      | (with_reducible exact ih0 _ _ _ _)
      | (with_reducible exact ih1 _ _ _ _ _)
      | (with_reducible exact ih2 _ _ _ _)
      | (with_reducible exact ih3 _ _ _ _ _ _ _ _)
      | (with_reducible exact colophonref11_add.mono _ _ _ _)
      | (with_reducible exact LeO.refl _)
      | (with_reducible exact LeO.none _)
      | (with_reducible refine LeO.ite ?_ ?_)
      | (with_reducible refine LeO.bind ?_ (fun _ => ?_))
      | exact ih0 _ _ _ _
      | exact ih1 _ _ _ _ _
      | exact ih2 _ _ _ _
      | exact ih3 _ _ _ _ _ _ _ _
      | exact colophonref11_add.mono _ _ _ _
      | exact LeO.none _
      | refine LeO.ite ?_ ?_
      | refine LeO.bind ?_ (fun _ => ?_)
    · intro y0 y1 y2 y3 y4 y5 y6 y7
      unfold colophonref11_twelve.l2
      repeat' first
      | (with_reducible exact ih0 _ _ _ _)
      | (with_reducible exact ih1 _ _ _ _ _)
      | (with_reducible exact ih2 _ _ _ _)
      | (with_reducible exact ih3 _ _ _ _ _ _ _ _)
      | (with_reducible exact colophonref11_add.mono _ _ _ _)
      | (with_reducible exact LeO.refl _)
      | (with_reducible exact LeO.none _)
      | (with_reducible refine LeO.ite ?_ ?_)
      | (with_reducible refine LeO.bind ?_ (fun _ => ?_))
      | exact ih0 _ _ _ _
      | exact ih1 _ _ _ _ _
      | exact ih2 _ _ _ _
      | exact ih3 _ _ _ _ _ _ _ _
      | exact colophonref11_add.mono _ _ _ _
      | exact LeO.none _
      | refine LeO.ite ?_ ?_
      | refine LeO.bind ?_ (fun _ => ?_)
theorem colophonref11_twelve.mono : ∀ a0 a1 k, LeO (colophonref11_twelve.f k a0 a1) (colophonref11_twelve.f (k + 1) a0 a1) := by
  intro a0 a1 k
  obtain ⟨ih0, ih1, ih2, ih3⟩ := colophonref11_twelve.mono_l k
  unfold colophonref11_twelve.f
  repeat' first
      | (with_reducible exact ih0 _ _ _ _)
      | (with_reducible exact ih1 _ _ _ _ _)
      | (with_reducible exact ih2 _ _ _ _)
      | (with_reducible exact ih3 _ _ _ _ _ _ _ _)
      | (with_reducible exact colophonref11_add.mono _ _ _ _)
      | (with_reducible exact LeO.refl _)
      | (with_reducible exact LeO.none _)
      | (with_reducible refine LeO.ite ?_ ?_)
      | (with_reducible refine LeO.bind ?_ (fun _ => ?_))
      | exact ih0 _ _ _ _
      | exact ih1 _ _ _ _ _
      | exact ih2 _ _ _ _
      | exact ih3 _ _ _ _ _ _ _ _
      | exact colophonref11_add.mono _ _ _ _
      | exact LeO.none _
      | refine LeO.ite ?_ ?_
      | refine LeO.bind ?_ (fun _ => ?_)
set_option maxHeartbeats 8000000 in
set_option maxRecDepth 100000 in
theorem colophonref11_twelve.calls (k : Nat) (a0 : ByteArray) (a1 : Int) (r1 : List (S47)) (r2 : Bool) (w : World) (h : colophonref11_twelve.f k a0 a1 = some (r1, r2)) :
    Calls Try.prog 25 #[.string a0, .int .i64 a1] w fun e w' => ∃ v0_ : Value, e = .returned (.tuple #[v0_, .bool r2]) ∧ Kd.R k47 47 w' w.heap.size (fun _ => True) v0_ r1 ∧ Below w.heap.size w w' := by
  have HB := Aside0.mk (Below.refl w.heap.size w)
  have H : ((colophonref08_U4.f a0 12).bind fun t240 => (if (a0.size : Int) < 16 then (colophonref11_twelve.j0 k a0 a1 t240 true) else (if 0 ≤ 4 then (if 4 ≤ (a0.size : Int) then (if (a0.extract 0 4).toList = ([0, 12, 0, 0] : List UInt8) then (if t240 > 4096 then (colophonref11_twelve.j0 k a0 a1 t240 true) else ((colophonref08_U4.f a0 4).bind fun t241 => (if t241 = (wrap64 (16 + (wrap64 (12 * t240)))) then (colophonref11_twelve.j0 k a0 a1 t240 (decide ((a0.size : Int) < (wrap64 (16 + (wrap64 (12 * t240))))))) else (colophonref11_twelve.j0 k a0 a1 t240 true)))) else (colophonref11_twelve.j0 k a0 a1 t240 true)) else (none)) else (none)))) = some (r1, r2) := h
  clear h
  replace H := Option.bind_eq_some_iff.mp H
  obtain ⟨t240, A30, H⟩ := H
  replace H : (if (a0.size : Int) < 16 then (colophonref11_twelve.j0 k a0 a1 t240 true) else (if 0 ≤ 4 then (if 4 ≤ (a0.size : Int) then (if (a0.extract 0 4).toList = ([0, 12, 0, 0] : List UInt8) then (if t240 > 4096 then (colophonref11_twelve.j0 k a0 a1 t240 true) else ((colophonref08_U4.f a0 4).bind fun t241 => (if t241 = (wrap64 (16 + (wrap64 (12 * t240)))) then (colophonref11_twelve.j0 k a0 a1 t240 (decide ((a0.size : Int) < (wrap64 (16 + (wrap64 (12 * t240))))))) else (colophonref11_twelve.j0 k a0 a1 t240 true)))) else (colophonref11_twelve.j0 k a0 a1 t240 true)) else (none)) else (none))) = some (r1, r2) := H
  have A3 := Aside0.mk A30
  clear A30
  have HC4 := Aside0.mk H
  clear H
  go_enter Try.func25, Try.ntmps25
  go_upto_region 2 with (first | ((with_reducible refine gate_callee (f := 24) rfl ?_); refine goesL_ (some 20) rfl rfl Try.func24 (by kernel_rfl) rfl #[.string a0, .int .i64 12] rfl (by (try simp only [List.map_toArray, List.map_cons, List.map_nil]); first | done | rfl | (simp only [List.length_drop, List.length_take]; rfl)) ?_; (with_reducible refine (colophonref08_U4.calls a0 12 t240 _ A3.out).mono ?_); rintro e w' ⟨rfl, ⟨nd, rfl⟩⟩; refine ⟨_, rfl, ?_⟩))
  (try simp only [Act.put, List.setIfInBounds_toArray, List.set_cons_zero, List.set_cons_succ])
  go_cut [48] (fun v48 wc => ∃ (kq : Nat) (x48_3 : Bool), v48 = .bool x48_3 ∧ Aside0 (colophonref11_twelve.j0 kq a0 a1 t240 x48_3 = some (r1, r2)) ∧ Aside0 (kq ≤ k) ∧ Aside0 (Below w.heap.size w wc))
  case first =>
    have H := HC4.out
    clear HC4
    by_cases c5 : (a0.size : Int) < 16
    · rw [if_pos c5] at H
      have c5b0 : decide ((a0.size : Int) < 16) = true := decide_eq_true c5
      have c5b1 : decide (a0.size < 16) = true := decide_eq_true (by omega)
      clear c5
      (first | rw [c5b0] | (simp only [i64_w, i32_w]; rw [c5b0]) | skip)
      have H' := Aside0.mk H
      clear H
      go_wp2
      go_meet
      case rel => exact ⟨_, (true), (by first | rfl | (simp; done) | (simp [*]; done)), H', ⟨by first | omega | exact Nat.le_refl _⟩, ⟨by repeat (first | (with_reducible first | exact HB.out | apply below_alloc | apply pw_below_drewN | apply below_drew1) | exact HB.out)⟩⟩
    · rw [if_neg c5] at H
      have c5b0 : decide ((a0.size : Int) < 16) = false := decide_eq_false c5
      have c5b1 : decide (a0.size < 16) = false := decide_eq_false (by omega)
      clear c5
      (first | rw [c5b0] | (simp only [i64_w, i32_w]; rw [c5b0]) | skip)
      by_cases c6 : 0 ≤ 4
      · rw [if_pos c6] at H
        have c6b0 := eq_true c6
        have c6b1 : decide (0 ≤ 4) = true := decide_eq_true c6
        clear c6
        by_cases c7 : 4 ≤ (a0.size : Int)
        · rw [if_pos c7] at H
          have c7b0 := eq_true c7
          have c7b1 : decide (4 ≤ (a0.size : Int)) = true := decide_eq_true c7
          clear c7
          by_cases c8 : (a0.extract 0 4).toList = ([0, 12, 0, 0] : List UInt8)
          · rw [if_pos c8] at H
            have c8b0 : ((a0.extract 0 4).toList == ([0, 12, 0, 0] : List UInt8)) = true := beq_iff_eq.mpr c8
            have c8b1 : ((a0.extract 0 4).toList != ([0, 12, 0, 0] : List UInt8)) = false := bne_eq_false_iff_eq.mpr c8
            clear c8
            by_cases c9 : t240 > 4096
            · rw [if_pos c9] at H
              have c9b0 : decide (4096 < t240) = true := decide_eq_true c9
              clear c9
              have H' := Aside0.mk H
              clear H
              go_wp2
              go_meet
              case rel => exact ⟨_, (true), (by first | rfl | (simp; done) | (simp [*]; done)), H', ⟨by first | omega | exact Nat.le_refl _⟩, ⟨by repeat (first | (with_reducible first | exact HB.out | apply below_alloc | apply pw_below_drewN | apply below_drew1) | exact HB.out)⟩⟩
            · rw [if_neg c9] at H
              have c9b0 : decide (4096 < t240) = false := decide_eq_false c9
              clear c9
              replace H := Option.bind_eq_some_iff.mp H
              obtain ⟨t241, A100, H⟩ := H
              replace H : (if t241 = (wrap64 (16 + (wrap64 (12 * t240)))) then (colophonref11_twelve.j0 k a0 a1 t240 (decide ((a0.size : Int) < (wrap64 (16 + (wrap64 (12 * t240))))))) else (colophonref11_twelve.j0 k a0 a1 t240 true)) = some (r1, r2) := H
              have A10 := Aside0.mk A100
              clear A100
              by_cases c11 : t241 = (wrap64 (16 + (wrap64 (12 * t240))))
              · rw [if_pos c11] at H
                have c11b0 : (t241 == (wrap64 (16 + (wrap64 (12 * t240))))) = true := beq_iff_eq.mpr c11
                (try (have c11b0w := c11b0; ((first | rw [pw_wdiv _ _ (by omega) (by omega)] at c11b0w | rw [pw_wdiv' _ _ (by omega) (by omega)] at c11b0w | rw [Go.IntWalk.wrap64_in _ (by omega)] at c11b0w); repeat (first | rw [pw_wdiv _ _ (by omega) (by omega)] at c11b0w | rw [pw_wdiv' _ _ (by omega) (by omega)] at c11b0w | rw [Go.IntWalk.wrap64_in _ (by omega)] at c11b0w))))
                have c11b1 : (t241 != (wrap64 (16 + (wrap64 (12 * t240))))) = false := bne_eq_false_iff_eq.mpr c11
                (try (have c11b1w := c11b1; ((first | rw [pw_wdiv _ _ (by omega) (by omega)] at c11b1w | rw [pw_wdiv' _ _ (by omega) (by omega)] at c11b1w | rw [Go.IntWalk.wrap64_in _ (by omega)] at c11b1w); repeat (first | rw [pw_wdiv _ _ (by omega) (by omega)] at c11b1w | rw [pw_wdiv' _ _ (by omega) (by omega)] at c11b1w | rw [Go.IntWalk.wrap64_in _ (by omega)] at c11b1w))))
                clear c11
                have H' := Aside0.mk H
                clear H
                go_wp2_with (first | (go_at_call 24; (with_reducible refine (colophonref08_U4.calls a0 4 t241 _ A10.out).mono ?_); rintro e w' ⟨rfl, ⟨nd, rfl⟩⟩))
                go_meet
                case rel => exact ⟨_, (decide ((a0.size : Int) < (wrap64 (16 + (wrap64 (12 * t240)))))), (by first | rfl | (simp; done) | (simp [*]; done)), H', ⟨by first | omega | exact Nat.le_refl _⟩, ⟨by repeat (first | (with_reducible first | exact HB.out | apply below_alloc | apply pw_below_drewN | apply below_drew1) | exact HB.out)⟩⟩
              · rw [if_neg c11] at H
                have c11b0 : (t241 == (wrap64 (16 + (wrap64 (12 * t240))))) = false := beq_eq_false_iff_ne.mpr c11
                (try (have c11b0w := c11b0; ((first | rw [pw_wdiv _ _ (by omega) (by omega)] at c11b0w | rw [pw_wdiv' _ _ (by omega) (by omega)] at c11b0w | rw [Go.IntWalk.wrap64_in _ (by omega)] at c11b0w); repeat (first | rw [pw_wdiv _ _ (by omega) (by omega)] at c11b0w | rw [pw_wdiv' _ _ (by omega) (by omega)] at c11b0w | rw [Go.IntWalk.wrap64_in _ (by omega)] at c11b0w))))
                have c11b1 : (t241 != (wrap64 (16 + (wrap64 (12 * t240))))) = true := bne_iff_ne.mpr c11
                (try (have c11b1w := c11b1; ((first | rw [pw_wdiv _ _ (by omega) (by omega)] at c11b1w | rw [pw_wdiv' _ _ (by omega) (by omega)] at c11b1w | rw [Go.IntWalk.wrap64_in _ (by omega)] at c11b1w); repeat (first | rw [pw_wdiv _ _ (by omega) (by omega)] at c11b1w | rw [pw_wdiv' _ _ (by omega) (by omega)] at c11b1w | rw [Go.IntWalk.wrap64_in _ (by omega)] at c11b1w))))
                have H' := Aside0.mk H
                clear H
                go_wp2_with (first | (go_at_call 24; (with_reducible refine (colophonref08_U4.calls a0 4 t241 _ A10.out).mono ?_); rintro e w' ⟨rfl, ⟨nd, rfl⟩⟩))
                go_meet
                case rel => exact ⟨_, (true), (by first | rfl | (simp; done) | (simp [*]; done)), H', ⟨by first | omega | exact Nat.le_refl _⟩, ⟨by repeat (first | (with_reducible first | exact HB.out | apply below_alloc | apply pw_below_drewN | apply below_drew1) | exact HB.out)⟩⟩
          · rw [if_neg c8] at H
            have c8b0 : ((a0.extract 0 4).toList == ([0, 12, 0, 0] : List UInt8)) = false := beq_eq_false_iff_ne.mpr c8
            have c8b1 : ((a0.extract 0 4).toList != ([0, 12, 0, 0] : List UInt8)) = true := bne_iff_ne.mpr c8
            have H' := Aside0.mk H
            clear H
            go_wp2
            go_meet
            case rel => exact ⟨_, (true), (by first | rfl | (simp; done) | (simp [*]; done)), H', ⟨by first | omega | exact Nat.le_refl _⟩, ⟨by repeat (first | (with_reducible first | exact HB.out | apply below_alloc | apply pw_below_drewN | apply below_drew1) | exact HB.out)⟩⟩
        · rw [if_neg c7] at H
          exact absurd H (by simp)
      · rw [if_neg c6] at H
        exact absurd H (by simp)
  case rest =>
    clear HC4
    try clear c1
    try clear c2
    try clear p2
    try clear c5
    try clear c5b0
    try clear c5b1
    try clear c6
    try clear c6b0
    try clear c6b1
    try clear p6
    try clear c7
    try clear c7b0
    try clear c7b1
    try clear c8
    try clear c8b0
    try clear c8b1
    try clear c9
    try clear c9b0
    try clear c11
    try clear c11b0
    try clear c11b1
    obtain ⟨kq, x48_3, rfl, HA, HJ3, HB⟩ := hcut
    cases kq with
    | zero => exact absurd HA.out (by simp [colophonref11_twelve.j0])
    | succ kj3 =>
      have H := HA.out
      clear HA
      simp only [colophonref11_twelve.j0] at H
      by_cases c12 : x48_3 = true
      · subst c12
        have H1 : (some (([] : List (S47)), false)) = some (r1, r2) := by rw [if_pos rfl] at H; exact H
        clear H
        have H := H1
        clear H1
        simp only [Option.some.injEq, Prod.mk.injEq] at H
        obtain ⟨rfl, rfl⟩ := H
        go_wp2
        go_ret2
        exact ⟨_, by first | rfl | (simp [errW_none, errW_some] <;> rfl) | (simp [*, errW_none, errW_some] <;> rfl) | (((first | rw [pw_wdiv _ _ (by omega) (by omega)] | rw [pw_wdiv' _ _ (by omega) (by omega)] | rw [Go.IntWalk.wrap64_in _ (by omega)]); repeat (first | rw [pw_wdiv _ _ (by omega) (by omega)] | rw [pw_wdiv' _ _ (by omega) (by omega)] | rw [Go.IntWalk.wrap64_in _ (by omega)])); rfl), by first | exact Kd.R_nil _ _ _ _ _ | exact Kd.N_nil _ _ _ _ _ | exact Kd.V_nil _ _ _ _ _ | exact Kd.Q_nil _ _ _ _ _ | exact Kd.S_nil _ _ _ _ _, by repeat (first | (with_reducible first | exact HB.out | apply below_alloc | apply pw_below_drewN | apply below_drew1) | exact HB.out)⟩
      · replace c12 := Bool.eq_false_iff.mpr c12
        subst c12
        have H1 : (colophonref11_twelve.l0 kj3 a0 a1 t240 (-1) 0) = some (r1, r2) := by rw [if_neg (show ¬ (false = true) by decide)] at H; exact H
        clear H
        have H := H1
        clear H1
        have H' := Aside0.mk H
        clear H
        go_wp2
        go_loopg [7, 8] kj3 (fun kq v7 v8 w' => ∃ (x7_2 : Int) (x8_2 : Int), v7 = .int .i64 x7_2 ∧ v8 = .int .i64 x8_2 ∧ Aside0 (colophonref11_twelve.l0 kq a0 a1 t240 x7_2 x8_2 = some (r1, r2)) ∧ Aside0 (kq ≤ kj3) ∧ Aside0 (Below w.heap.size w w'))
        case atStart => exact ⟨((-1)), (0), (by first | rfl | (simp; done) | (simp [*]; done)), (by first | rfl | (simp; done) | (simp [*]; done)), H', ⟨Nat.le_refl _⟩, ⟨by repeat (first | (with_reducible first | exact HB.out | apply below_alloc | apply pw_below_drewN | apply below_drew1) | exact HB.out)⟩⟩
        case round =>
          clear H'
          try clear c1
          try clear c2
          try clear p2
          try clear c5
          try clear c5b0
          try clear c5b1
          try clear c6
          try clear c6b0
          try clear c6b1
          try clear p6
          try clear c7
          try clear c7b0
          try clear c7b1
          try clear c8
          try clear c8b0
          try clear c8b1
          try clear c9
          try clear c9b0
          try clear c11
          try clear c11b0
          try clear c11b1
          try clear c12
          try clear p2
          try clear p6
          obtain ⟨x7_2, x8_2, rfl, rfl, HA, HK2, HB⟩ := hrel
          cases gk with
          | zero => exact absurd HA.out (by simp [colophonref11_twelve.l0])
          | succ k2 =>
            have H := HA.out
            clear HA
            simp only [colophonref11_twelve.l0] at H
            by_cases c13 : x8_2 < t240
            · rw [if_pos c13] at H
              have c13b0 : decide (x8_2 < t240) = true := decide_eq_true c13
              clear c13
              replace H := Option.bind_eq_some_iff.mp H
              obtain ⟨t242, A140, H⟩ := H
              replace H : ((colophonref08_U4.f a0 (wrap64 (20 + (wrap64 (12 * x8_2))))).bind fun t243 => ((colophonref08_U4.f a0 (wrap64 (24 + (wrap64 (12 * x8_2))))).bind fun t244 => (if t242 > t243 then (some (([] : List (S47)), false)) else (if t242 ≤ x7_2 then (some (([] : List (S47)), false)) else (if t243 > 1114111 then (some (([] : List (S47)), false)) else (if (wrap64 ((wrap64 (t244 + t243)) - t242)) ≥ a1 then (some (([] : List (S47)), false)) else (colophonref11_twelve.l0 k2 a0 a1 t240 t243 (wrap64 (x8_2 + 1))))))))) = some (r1, r2) := H
              have A14 := Aside0.mk A140
              clear A140
              replace H := Option.bind_eq_some_iff.mp H
              obtain ⟨t243, A150, H⟩ := H
              replace H : ((colophonref08_U4.f a0 (wrap64 (24 + (wrap64 (12 * x8_2))))).bind fun t244 => (if t242 > t243 then (some (([] : List (S47)), false)) else (if t242 ≤ x7_2 then (some (([] : List (S47)), false)) else (if t243 > 1114111 then (some (([] : List (S47)), false)) else (if (wrap64 ((wrap64 (t244 + t243)) - t242)) ≥ a1 then (some (([] : List (S47)), false)) else (colophonref11_twelve.l0 k2 a0 a1 t240 t243 (wrap64 (x8_2 + 1)))))))) = some (r1, r2) := H
              have A15 := Aside0.mk A150
              clear A150
              replace H := Option.bind_eq_some_iff.mp H
              obtain ⟨t244, A160, H⟩ := H
              replace H : (if t242 > t243 then (some (([] : List (S47)), false)) else (if t242 ≤ x7_2 then (some (([] : List (S47)), false)) else (if t243 > 1114111 then (some (([] : List (S47)), false)) else (if (wrap64 ((wrap64 (t244 + t243)) - t242)) ≥ a1 then (some (([] : List (S47)), false)) else (colophonref11_twelve.l0 k2 a0 a1 t240 t243 (wrap64 (x8_2 + 1))))))) = some (r1, r2) := H
              have A16 := Aside0.mk A160
              clear A160
              by_cases c17 : t242 > t243
              · rw [if_pos c17] at H
                have c17b0 : decide (t243 < t242) = true := decide_eq_true c17
                clear c17
                simp only [Option.some.injEq, Prod.mk.injEq] at H
                obtain ⟨rfl, rfl⟩ := H
                go_wp2_with (first | ((with_reducible refine gate_callee (f := 24) rfl ?_); refine goesL_ (some 58) rfl rfl Try.func24 (by kernel_rfl) rfl #[.string a0, .int .i64 (wrap64 (16 + (wrap64 (12 * x8_2))))] rfl (by (try simp only [List.map_toArray, List.map_cons, List.map_nil]); first | done | rfl | (simp only [List.length_drop, List.length_take]; rfl)) ?_; (with_reducible refine (colophonref08_U4.calls a0 (wrap64 (16 + (wrap64 (12 * x8_2)))) t242 _ A14.out).mono ?_); rintro e w' ⟨rfl, ⟨nd, rfl⟩⟩; refine ⟨_, rfl, ?_⟩) | ((with_reducible refine gate_callee (f := 24) rfl ?_); refine goesL_ (some 63) rfl rfl Try.func24 (by kernel_rfl) rfl #[.string a0, .int .i64 (wrap64 (20 + (wrap64 (12 * x8_2))))] rfl (by (try simp only [List.map_toArray, List.map_cons, List.map_nil]); first | done | rfl | (simp only [List.length_drop, List.length_take]; rfl)) ?_; (with_reducible refine (colophonref08_U4.calls a0 (wrap64 (20 + (wrap64 (12 * x8_2)))) t243 _ A15.out).mono ?_); rintro e w' ⟨rfl, ⟨nd, rfl⟩⟩; refine ⟨_, rfl, ?_⟩) | ((with_reducible refine gate_callee (f := 24) rfl ?_); refine goesL_ (some 68) rfl rfl Try.func24 (by kernel_rfl) rfl #[.string a0, .int .i64 (wrap64 (24 + (wrap64 (12 * x8_2))))] rfl (by (try simp only [List.map_toArray, List.map_cons, List.map_nil]); first | done | rfl | (simp only [List.length_drop, List.length_take]; rfl)) ?_; (with_reducible refine (colophonref08_U4.calls a0 (wrap64 (24 + (wrap64 (12 * x8_2)))) t244 _ A16.out).mono ?_); rintro e w' ⟨rfl, ⟨nd, rfl⟩⟩; refine ⟨_, rfl, ?_⟩))
                go_ret2
                exact ⟨_, by first | rfl | (simp [errW_none, errW_some] <;> rfl) | (simp [*, errW_none, errW_some] <;> rfl) | (((first | rw [pw_wdiv _ _ (by omega) (by omega)] | rw [pw_wdiv' _ _ (by omega) (by omega)] | rw [Go.IntWalk.wrap64_in _ (by omega)]); repeat (first | rw [pw_wdiv _ _ (by omega) (by omega)] | rw [pw_wdiv' _ _ (by omega) (by omega)] | rw [Go.IntWalk.wrap64_in _ (by omega)])); rfl), by first | exact Kd.R_nil _ _ _ _ _ | exact Kd.N_nil _ _ _ _ _ | exact Kd.V_nil _ _ _ _ _ | exact Kd.Q_nil _ _ _ _ _ | exact Kd.S_nil _ _ _ _ _, by repeat (first | (with_reducible first | exact HB.out | apply below_alloc | apply pw_below_drewN | apply below_drew1) | exact HB.out)⟩
              · rw [if_neg c17] at H
                have c17b0 : decide (t243 < t242) = false := decide_eq_false c17
                clear c17
                by_cases c18 : t242 ≤ x7_2
                · rw [if_pos c18] at H
                  have c18b0 : decide (t242 ≤ x7_2) = true := decide_eq_true c18
                  clear c18
                  simp only [Option.some.injEq, Prod.mk.injEq] at H
                  obtain ⟨rfl, rfl⟩ := H
                  go_wp2_with (first | ((with_reducible refine gate_callee (f := 24) rfl ?_); refine goesL_ (some 58) rfl rfl Try.func24 (by kernel_rfl) rfl #[.string a0, .int .i64 (wrap64 (16 + (wrap64 (12 * x8_2))))] rfl (by (try simp only [List.map_toArray, List.map_cons, List.map_nil]); first | done | rfl | (simp only [List.length_drop, List.length_take]; rfl)) ?_; (with_reducible refine (colophonref08_U4.calls a0 (wrap64 (16 + (wrap64 (12 * x8_2)))) t242 _ A14.out).mono ?_); rintro e w' ⟨rfl, ⟨nd, rfl⟩⟩; refine ⟨_, rfl, ?_⟩) | ((with_reducible refine gate_callee (f := 24) rfl ?_); refine goesL_ (some 63) rfl rfl Try.func24 (by kernel_rfl) rfl #[.string a0, .int .i64 (wrap64 (20 + (wrap64 (12 * x8_2))))] rfl (by (try simp only [List.map_toArray, List.map_cons, List.map_nil]); first | done | rfl | (simp only [List.length_drop, List.length_take]; rfl)) ?_; (with_reducible refine (colophonref08_U4.calls a0 (wrap64 (20 + (wrap64 (12 * x8_2)))) t243 _ A15.out).mono ?_); rintro e w' ⟨rfl, ⟨nd, rfl⟩⟩; refine ⟨_, rfl, ?_⟩) | ((with_reducible refine gate_callee (f := 24) rfl ?_); refine goesL_ (some 68) rfl rfl Try.func24 (by kernel_rfl) rfl #[.string a0, .int .i64 (wrap64 (24 + (wrap64 (12 * x8_2))))] rfl (by (try simp only [List.map_toArray, List.map_cons, List.map_nil]); first | done | rfl | (simp only [List.length_drop, List.length_take]; rfl)) ?_; (with_reducible refine (colophonref08_U4.calls a0 (wrap64 (24 + (wrap64 (12 * x8_2)))) t244 _ A16.out).mono ?_); rintro e w' ⟨rfl, ⟨nd, rfl⟩⟩; refine ⟨_, rfl, ?_⟩))
                  go_ret2
                  exact ⟨_, by first | rfl | (simp [errW_none, errW_some] <;> rfl) | (simp [*, errW_none, errW_some] <;> rfl) | (((first | rw [pw_wdiv _ _ (by omega) (by omega)] | rw [pw_wdiv' _ _ (by omega) (by omega)] | rw [Go.IntWalk.wrap64_in _ (by omega)]); repeat (first | rw [pw_wdiv _ _ (by omega) (by omega)] | rw [pw_wdiv' _ _ (by omega) (by omega)] | rw [Go.IntWalk.wrap64_in _ (by omega)])); rfl), by first | exact Kd.R_nil _ _ _ _ _ | exact Kd.N_nil _ _ _ _ _ | exact Kd.V_nil _ _ _ _ _ | exact Kd.Q_nil _ _ _ _ _ | exact Kd.S_nil _ _ _ _ _, by repeat (first | (with_reducible first | exact HB.out | apply below_alloc | apply pw_below_drewN | apply below_drew1) | exact HB.out)⟩
                · rw [if_neg c18] at H
                  have c18b0 : decide (t242 ≤ x7_2) = false := decide_eq_false c18
                  clear c18
                  by_cases c19 : t243 > 1114111
                  · rw [if_pos c19] at H
                    have c19b0 : decide (1114111 < t243) = true := decide_eq_true c19
                    clear c19
                    simp only [Option.some.injEq, Prod.mk.injEq] at H
                    obtain ⟨rfl, rfl⟩ := H
                    go_wp2_with (first | ((with_reducible refine gate_callee (f := 24) rfl ?_); refine goesL_ (some 58) rfl rfl Try.func24 (by kernel_rfl) rfl #[.string a0, .int .i64 (wrap64 (16 + (wrap64 (12 * x8_2))))] rfl (by (try simp only [List.map_toArray, List.map_cons, List.map_nil]); first | done | rfl | (simp only [List.length_drop, List.length_take]; rfl)) ?_; (with_reducible refine (colophonref08_U4.calls a0 (wrap64 (16 + (wrap64 (12 * x8_2)))) t242 _ A14.out).mono ?_); rintro e w' ⟨rfl, ⟨nd, rfl⟩⟩; refine ⟨_, rfl, ?_⟩) | ((with_reducible refine gate_callee (f := 24) rfl ?_); refine goesL_ (some 63) rfl rfl Try.func24 (by kernel_rfl) rfl #[.string a0, .int .i64 (wrap64 (20 + (wrap64 (12 * x8_2))))] rfl (by (try simp only [List.map_toArray, List.map_cons, List.map_nil]); first | done | rfl | (simp only [List.length_drop, List.length_take]; rfl)) ?_; (with_reducible refine (colophonref08_U4.calls a0 (wrap64 (20 + (wrap64 (12 * x8_2)))) t243 _ A15.out).mono ?_); rintro e w' ⟨rfl, ⟨nd, rfl⟩⟩; refine ⟨_, rfl, ?_⟩) | ((with_reducible refine gate_callee (f := 24) rfl ?_); refine goesL_ (some 68) rfl rfl Try.func24 (by kernel_rfl) rfl #[.string a0, .int .i64 (wrap64 (24 + (wrap64 (12 * x8_2))))] rfl (by (try simp only [List.map_toArray, List.map_cons, List.map_nil]); first | done | rfl | (simp only [List.length_drop, List.length_take]; rfl)) ?_; (with_reducible refine (colophonref08_U4.calls a0 (wrap64 (24 + (wrap64 (12 * x8_2)))) t244 _ A16.out).mono ?_); rintro e w' ⟨rfl, ⟨nd, rfl⟩⟩; refine ⟨_, rfl, ?_⟩))
                    go_ret2
                    exact ⟨_, by first | rfl | (simp [errW_none, errW_some] <;> rfl) | (simp [*, errW_none, errW_some] <;> rfl) | (((first | rw [pw_wdiv _ _ (by omega) (by omega)] | rw [pw_wdiv' _ _ (by omega) (by omega)] | rw [Go.IntWalk.wrap64_in _ (by omega)]); repeat (first | rw [pw_wdiv _ _ (by omega) (by omega)] | rw [pw_wdiv' _ _ (by omega) (by omega)] | rw [Go.IntWalk.wrap64_in _ (by omega)])); rfl), by first | exact Kd.R_nil _ _ _ _ _ | exact Kd.N_nil _ _ _ _ _ | exact Kd.V_nil _ _ _ _ _ | exact Kd.Q_nil _ _ _ _ _ | exact Kd.S_nil _ _ _ _ _, by repeat (first | (with_reducible first | exact HB.out | apply below_alloc | apply pw_below_drewN | apply below_drew1) | exact HB.out)⟩
                  · rw [if_neg c19] at H
                    have c19b0 : decide (1114111 < t243) = false := decide_eq_false c19
                    clear c19
                    by_cases c20 : (wrap64 ((wrap64 (t244 + t243)) - t242)) ≥ a1
                    · rw [if_pos c20] at H
                      have c20b0 : decide (a1 ≤ (wrap64 ((wrap64 (t244 + t243)) - t242))) = true := decide_eq_true c20
                      (try (have c20b0w := c20b0; ((first | rw [pw_wdiv _ _ (by omega) (by omega)] at c20b0w | rw [pw_wdiv' _ _ (by omega) (by omega)] at c20b0w | rw [Go.IntWalk.wrap64_in _ (by omega)] at c20b0w); repeat (first | rw [pw_wdiv _ _ (by omega) (by omega)] at c20b0w | rw [pw_wdiv' _ _ (by omega) (by omega)] at c20b0w | rw [Go.IntWalk.wrap64_in _ (by omega)] at c20b0w))))
                      clear c20
                      simp only [Option.some.injEq, Prod.mk.injEq] at H
                      obtain ⟨rfl, rfl⟩ := H
                      go_wp2_with (first | ((with_reducible refine gate_callee (f := 24) rfl ?_); refine goesL_ (some 58) rfl rfl Try.func24 (by kernel_rfl) rfl #[.string a0, .int .i64 (wrap64 (16 + (wrap64 (12 * x8_2))))] rfl (by (try simp only [List.map_toArray, List.map_cons, List.map_nil]); first | done | rfl | (simp only [List.length_drop, List.length_take]; rfl)) ?_; (with_reducible refine (colophonref08_U4.calls a0 (wrap64 (16 + (wrap64 (12 * x8_2)))) t242 _ A14.out).mono ?_); rintro e w' ⟨rfl, ⟨nd, rfl⟩⟩; refine ⟨_, rfl, ?_⟩) | ((with_reducible refine gate_callee (f := 24) rfl ?_); refine goesL_ (some 63) rfl rfl Try.func24 (by kernel_rfl) rfl #[.string a0, .int .i64 (wrap64 (20 + (wrap64 (12 * x8_2))))] rfl (by (try simp only [List.map_toArray, List.map_cons, List.map_nil]); first | done | rfl | (simp only [List.length_drop, List.length_take]; rfl)) ?_; (with_reducible refine (colophonref08_U4.calls a0 (wrap64 (20 + (wrap64 (12 * x8_2)))) t243 _ A15.out).mono ?_); rintro e w' ⟨rfl, ⟨nd, rfl⟩⟩; refine ⟨_, rfl, ?_⟩) | ((with_reducible refine gate_callee (f := 24) rfl ?_); refine goesL_ (some 68) rfl rfl Try.func24 (by kernel_rfl) rfl #[.string a0, .int .i64 (wrap64 (24 + (wrap64 (12 * x8_2))))] rfl (by (try simp only [List.map_toArray, List.map_cons, List.map_nil]); first | done | rfl | (simp only [List.length_drop, List.length_take]; rfl)) ?_; (with_reducible refine (colophonref08_U4.calls a0 (wrap64 (24 + (wrap64 (12 * x8_2)))) t244 _ A16.out).mono ?_); rintro e w' ⟨rfl, ⟨nd, rfl⟩⟩; refine ⟨_, rfl, ?_⟩))
                      go_ret2
                      exact ⟨_, by first | rfl | (simp [errW_none, errW_some] <;> rfl) | (simp [*, errW_none, errW_some] <;> rfl) | (((first | rw [pw_wdiv _ _ (by omega) (by omega)] | rw [pw_wdiv' _ _ (by omega) (by omega)] | rw [Go.IntWalk.wrap64_in _ (by omega)]); repeat (first | rw [pw_wdiv _ _ (by omega) (by omega)] | rw [pw_wdiv' _ _ (by omega) (by omega)] | rw [Go.IntWalk.wrap64_in _ (by omega)])); rfl), by first | exact Kd.R_nil _ _ _ _ _ | exact Kd.N_nil _ _ _ _ _ | exact Kd.V_nil _ _ _ _ _ | exact Kd.Q_nil _ _ _ _ _ | exact Kd.S_nil _ _ _ _ _, by repeat (first | (with_reducible first | exact HB.out | apply below_alloc | apply pw_below_drewN | apply below_drew1) | exact HB.out)⟩
                    · rw [if_neg c20] at H
                      have c20b0 : decide (a1 ≤ (wrap64 ((wrap64 (t244 + t243)) - t242))) = false := decide_eq_false c20
                      (try (have c20b0w := c20b0; ((first | rw [pw_wdiv _ _ (by omega) (by omega)] at c20b0w | rw [pw_wdiv' _ _ (by omega) (by omega)] at c20b0w | rw [Go.IntWalk.wrap64_in _ (by omega)] at c20b0w); repeat (first | rw [pw_wdiv _ _ (by omega) (by omega)] at c20b0w | rw [pw_wdiv' _ _ (by omega) (by omega)] at c20b0w | rw [Go.IntWalk.wrap64_in _ (by omega)] at c20b0w))))
                      clear c20
                      have H' := Aside0.mk H
                      clear H
                      go_wp2_with (first | ((with_reducible refine gate_callee (f := 24) rfl ?_); refine goesL_ (some 58) rfl rfl Try.func24 (by kernel_rfl) rfl #[.string a0, .int .i64 (wrap64 (16 + (wrap64 (12 * x8_2))))] rfl (by (try simp only [List.map_toArray, List.map_cons, List.map_nil]); first | done | rfl | (simp only [List.length_drop, List.length_take]; rfl)) ?_; (with_reducible refine (colophonref08_U4.calls a0 (wrap64 (16 + (wrap64 (12 * x8_2)))) t242 _ A14.out).mono ?_); rintro e w' ⟨rfl, ⟨nd, rfl⟩⟩; refine ⟨_, rfl, ?_⟩) | ((with_reducible refine gate_callee (f := 24) rfl ?_); refine goesL_ (some 63) rfl rfl Try.func24 (by kernel_rfl) rfl #[.string a0, .int .i64 (wrap64 (20 + (wrap64 (12 * x8_2))))] rfl (by (try simp only [List.map_toArray, List.map_cons, List.map_nil]); first | done | rfl | (simp only [List.length_drop, List.length_take]; rfl)) ?_; (with_reducible refine (colophonref08_U4.calls a0 (wrap64 (20 + (wrap64 (12 * x8_2)))) t243 _ A15.out).mono ?_); rintro e w' ⟨rfl, ⟨nd, rfl⟩⟩; refine ⟨_, rfl, ?_⟩) | ((with_reducible refine gate_callee (f := 24) rfl ?_); refine goesL_ (some 68) rfl rfl Try.func24 (by kernel_rfl) rfl #[.string a0, .int .i64 (wrap64 (24 + (wrap64 (12 * x8_2))))] rfl (by (try simp only [List.map_toArray, List.map_cons, List.map_nil]); first | done | rfl | (simp only [List.length_drop, List.length_take]; rfl)) ?_; (with_reducible refine (colophonref08_U4.calls a0 (wrap64 (24 + (wrap64 (12 * x8_2)))) t244 _ A16.out).mono ?_); rintro e w' ⟨rfl, ⟨nd, rfl⟩⟩; refine ⟨_, rfl, ?_⟩))
                      go_roundg k2
                      case measure => have := HJ3.out; have := HK2.out; omega
                      case rel => exact ⟨(t243), (wrap64 (x8_2 + 1)), (by first | rfl | (simp; done) | (simp [*]; done)), (by first | rfl | (simp; done) | (simp [*]; done)), H', ⟨by have := HJ3.out; have := HK2.out; omega⟩, ⟨by repeat (first | (with_reducible first | exact HB.out | apply below_alloc | apply pw_below_drewN | apply below_drew1) | exact HB.out)⟩⟩
            · rw [if_neg c13] at H
              have c13b0 : decide (x8_2 < t240) = false := decide_eq_false c13
              clear c13
              have H' := Aside0.mk H
              clear H
              go_wp2
              go_loopg [12, 14] k2 (fun kq v12 v14 w' => ∃ (x12_3 : List (S47)) (x14_3 : Int), v14 = .int .i64 x14_3 ∧ Aside0 (colophonref11_twelve.l1 kq a0 t240 x12_3 x14_3 = some (r1, r2)) ∧ Aside0 (kq ≤ k2) ∧ Aside0 (Kd.R k47 47 w' w.heap.size (fun _ => True) v12 x12_3) ∧ Aside0 (Below w.heap.size w w'))
              case atStart => exact ⟨(([] : List (S47))), (0), (by first | rfl | (simp; done) | (simp [*]; done)), H', ⟨Nat.le_refl _⟩, ⟨by first | exact Kd.R_nil _ _ _ _ _ | exact Kd.N_nil _ _ _ _ _ | exact Kd.V_nil _ _ _ _ _ | exact Kd.Q_nil _ _ _ _ _ | exact Kd.S_nil _ _ _ _ _⟩, ⟨by repeat (first | (with_reducible first | exact HB.out | apply below_alloc | apply pw_below_drewN | apply below_drew1) | exact HB.out)⟩⟩
              case round =>
                clear H'
                try clear c1
                try clear c2
                try clear p2
                try clear c5
                try clear c5b0
                try clear c5b1
                try clear c6
                try clear c6b0
                try clear c6b1
                try clear p6
                try clear c7
                try clear c7b0
                try clear c7b1
                try clear c8
                try clear c8b0
                try clear c8b1
                try clear c9
                try clear c9b0
                try clear c11
                try clear c11b0
                try clear c11b1
                try clear c12
                try clear c13
                try clear c13b0
                try clear c17
                try clear c17b0
                try clear c18
                try clear c18b0
                try clear c19
                try clear c19b0
                try clear c20
                try clear c20b0
                try clear p2
                try clear p6
                obtain ⟨x12_3, x14_3, rfl, HA, HK3, HO_12, HB⟩ := hrel
                cases gk with
                | zero => exact absurd HA.out (by simp [colophonref11_twelve.l1])
                | succ k3 =>
                  have H := HA.out
                  clear HA
                  simp only [colophonref11_twelve.l1] at H
                  by_cases c21 : x14_3 < t240
                  · rw [if_pos c21] at H
                    have c21b0 : decide (x14_3 < t240) = true := decide_eq_true c21
                    clear c21
                    replace H := Option.bind_eq_some_iff.mp H
                    obtain ⟨t245, A220, H⟩ := H
                    replace H : ((colophonref08_U4.f a0 (wrap64 (20 + (wrap64 (12 * x14_3))))).bind fun t246 => ((colophonref08_U4.f a0 (wrap64 (24 + (wrap64 (12 * x14_3))))).bind fun t247 => (colophonref11_twelve.l2 k3 a0 t240 x12_3 x14_3 t245 t246 t247 t245))) = some (r1, r2) := H
                    have A22 := Aside0.mk A220
                    clear A220
                    replace H := Option.bind_eq_some_iff.mp H
                    obtain ⟨t246, A230, H⟩ := H
                    replace H : ((colophonref08_U4.f a0 (wrap64 (24 + (wrap64 (12 * x14_3))))).bind fun t247 => (colophonref11_twelve.l2 k3 a0 t240 x12_3 x14_3 t245 t246 t247 t245)) = some (r1, r2) := H
                    have A23 := Aside0.mk A230
                    clear A230
                    replace H := Option.bind_eq_some_iff.mp H
                    obtain ⟨t247, A240, H⟩ := H
                    replace H : (colophonref11_twelve.l2 k3 a0 t240 x12_3 x14_3 t245 t246 t247 t245) = some (r1, r2) := H
                    have A24 := Aside0.mk A240
                    clear A240
                    have H' := Aside0.mk H
                    clear H
                    go_wp2_with (first | ((with_reducible refine gate_callee (f := 24) rfl ?_); refine goesL_ (some 100) rfl rfl Try.func24 (by kernel_rfl) rfl #[.string a0, .int .i64 (wrap64 (16 + (wrap64 (12 * x14_3))))] rfl (by (try simp only [List.map_toArray, List.map_cons, List.map_nil]); first | done | rfl | (simp only [List.length_drop, List.length_take]; rfl)) ?_; (with_reducible refine (colophonref08_U4.calls a0 (wrap64 (16 + (wrap64 (12 * x14_3)))) t245 _ A22.out).mono ?_); rintro e w' ⟨rfl, ⟨nd, rfl⟩⟩; refine ⟨_, rfl, ?_⟩) | ((with_reducible refine gate_callee (f := 24) rfl ?_); refine goesL_ (some 105) rfl rfl Try.func24 (by kernel_rfl) rfl #[.string a0, .int .i64 (wrap64 (20 + (wrap64 (12 * x14_3))))] rfl (by (try simp only [List.map_toArray, List.map_cons, List.map_nil]); first | done | rfl | (simp only [List.length_drop, List.length_take]; rfl)) ?_; (with_reducible refine (colophonref08_U4.calls a0 (wrap64 (20 + (wrap64 (12 * x14_3)))) t246 _ A23.out).mono ?_); rintro e w' ⟨rfl, ⟨nd, rfl⟩⟩; refine ⟨_, rfl, ?_⟩) | ((with_reducible refine gate_callee (f := 24) rfl ?_); refine goesL_ (some 110) rfl rfl Try.func24 (by kernel_rfl) rfl #[.string a0, .int .i64 (wrap64 (24 + (wrap64 (12 * x14_3))))] rfl (by (try simp only [List.map_toArray, List.map_cons, List.map_nil]); first | done | rfl | (simp only [List.length_drop, List.length_take]; rfl)) ?_; (with_reducible refine (colophonref08_U4.calls a0 (wrap64 (24 + (wrap64 (12 * x14_3)))) t247 _ A24.out).mono ?_); rintro e w' ⟨rfl, ⟨nd, rfl⟩⟩; refine ⟨_, rfl, ?_⟩))
                    go_loopg [12, 18] k3 (fun kq v12 v18 w' => ∃ (x12_4 : List (S47)) (x18_4 : Int), v18 = .int .i64 x18_4 ∧ Aside0 (colophonref11_twelve.l2 kq a0 t240 x12_4 x14_3 t245 t246 t247 x18_4 = some (r1, r2)) ∧ Aside0 (kq ≤ k3) ∧ Aside0 (Kd.R k47 47 w' w.heap.size (fun _ => True) v12 x12_4) ∧ Aside0 (Below w.heap.size w w'))
                    case atStart => exact ⟨(x12_3), (t245), (by first | rfl | (simp; done) | (simp [*]; done)), H', ⟨Nat.le_refl _⟩, ⟨by (with_reducible repeat (first | apply Kd.R_alloc | apply Kd.R_drewN | apply Kd.R_drew)); exact HO_12.out⟩, ⟨by repeat (first | (with_reducible first | exact HB.out | apply below_alloc | apply pw_below_drewN | apply below_drew1) | exact HB.out)⟩⟩
                    case round =>
                      clear H'
                      try clear c1
                      try clear c2
                      try clear p2
                      try clear c5
                      try clear c5b0
                      try clear c5b1
                      try clear c6
                      try clear c6b0
                      try clear c6b1
                      try clear p6
                      try clear c7
                      try clear c7b0
                      try clear c7b1
                      try clear c8
                      try clear c8b0
                      try clear c8b1
                      try clear c9
                      try clear c9b0
                      try clear c11
                      try clear c11b0
                      try clear c11b1
                      try clear c12
                      try clear c13
                      try clear c13b0
                      try clear c17
                      try clear c17b0
                      try clear c18
                      try clear c18b0
                      try clear c19
                      try clear c19b0
                      try clear c20
                      try clear c20b0
                      try clear c21
                      try clear c21b0
                      try clear c24
                      try clear p2
                      try clear p6
                      obtain ⟨x12_4, x18_4, rfl, HA, HK4, HO_12, HB⟩ := hrel
                      cases gk with
                      | zero => exact absurd HA.out (by simp [colophonref11_twelve.l2])
                      | succ k4 =>
                        have H := HA.out
                        clear HA
                        simp only [colophonref11_twelve.l2] at H
                        by_cases c25 : x18_4 ≤ t246
                        · rw [if_pos c25] at H
                          have c25b0 : decide (x18_4 ≤ t246) = true := decide_eq_true c25
                          clear c25
                          replace H := Option.bind_eq_some_iff.mp H
                          obtain ⟨⟨t248, t251⟩, A260, H⟩ := H
                          replace H : (if t251 = true then (colophonref11_twelve.l2 k4 a0 t240 t248 x14_3 t245 t246 t247 (wrap64 (x18_4 + 1))) else (some (([] : List (S47)), false))) = some (r1, r2) := H
                          have A26 := Aside0.mk A260
                          clear A260
                          by_cases c27 : t251 = true
                          · subst c27
                            have H1 : (colophonref11_twelve.l2 k4 a0 t240 t248 x14_3 t245 t246 t247 (wrap64 (x18_4 + 1))) = some (r1, r2) := by rw [if_pos rfl] at H; exact H
                            clear H
                            have H := H1
                            clear H1
                            have H' := Aside0.mk H
                            clear H
                            obtain ⟨Ao28, co28, eo28⟩ := Kd.R_slice HO_12.out
                            subst eo28
                            go_wp2_with (first | ((with_reducible refine gate_callee (f := 37) rfl ?_); refine goesL_ (some 125) rfl rfl Try.func37 (by kernel_rfl) rfl #[.slice Ao28 x12_4.length co28, .int .i64 x18_4, .int .i64 (wrap64 ((wrap64 (t247 + x18_4)) - t245))] rfl (by (try simp only [List.map_toArray, List.map_cons, List.map_nil]); first | done | rfl | (simp only [List.length_drop, List.length_take]; rfl)) ?_; (with_reducible refine (colophonref11_add.calls k4 (fun k_ => some k_ = (.slice Ao28 x12_4.length co28 : Value).ownBlock) (.slice Ao28 x12_4.length co28) x12_4 x18_4 (wrap64 ((wrap64 (t247 + x18_4)) - t245)) t248 true w _ ?side1 ?side2 A26.out).mono ?_); (case side1 => repeat (first | (with_reducible first | exact HB.out | apply below_alloc | apply pw_below_drewN | apply below_drew1) | exact HB.out)); (case side2 => exact Kd.R_tight rfl HO_12.out); rintro e w29 ⟨v249, rfl, ho0, hb, hkp⟩; refine ⟨_, rfl, ?_⟩; have n0_ := Aside0.mk (Kd.R_mono (ok' := fun k_ => True) ho0 (fun k_ hk_ => trivial)); have n1_ := Aside0.mk (hb); clear HB; clear HO_12; have HO250 := n0_; have HB := n1_; clear n0_ n1_; (try clear hb); (try clear hkp); (try clear ho0)))
                            go_roundg k4
                            case measure => have := HJ3.out; have := HK2.out; have := HK3.out; have := HK4.out; omega
                            case rel => exact ⟨(t248), (wrap64 (x18_4 + 1)), (by first | rfl | (simp; done) | (simp [*]; done)), H', ⟨by have := HJ3.out; have := HK2.out; have := HK3.out; have := HK4.out; omega⟩, ⟨by (with_reducible repeat (first | apply Kd.R_alloc | apply Kd.R_drewN | apply Kd.R_drew)); exact HO250.out⟩, ⟨by repeat (first | (with_reducible first | exact HB.out | apply below_alloc | apply pw_below_drewN | apply below_drew1) | exact HB.out)⟩⟩
                          · replace c27 := Bool.eq_false_iff.mpr c27
                            subst c27
                            have H1 : (some (([] : List (S47)), false)) = some (r1, r2) := by rw [if_neg (show ¬ (false = true) by decide)] at H; exact H
                            clear H
                            have H := H1
                            clear H1
                            simp only [Option.some.injEq, Prod.mk.injEq] at H
                            obtain ⟨rfl, rfl⟩ := H
                            obtain ⟨Ao30, co30, eo30⟩ := Kd.R_slice HO_12.out
                            subst eo30
                            go_wp2_with (first | ((with_reducible refine gate_callee (f := 37) rfl ?_); refine goesL_ (some 125) rfl rfl Try.func37 (by kernel_rfl) rfl #[.slice Ao30 x12_4.length co30, .int .i64 x18_4, .int .i64 (wrap64 ((wrap64 (t247 + x18_4)) - t245))] rfl (by (try simp only [List.map_toArray, List.map_cons, List.map_nil]); first | done | rfl | (simp only [List.length_drop, List.length_take]; rfl)) ?_; (with_reducible refine (colophonref11_add.calls k4 (fun k_ => some k_ = (.slice Ao30 x12_4.length co30 : Value).ownBlock) (.slice Ao30 x12_4.length co30) x12_4 x18_4 (wrap64 ((wrap64 (t247 + x18_4)) - t245)) t248 false w _ ?side1 ?side2 A26.out).mono ?_); (case side1 => repeat (first | (with_reducible first | exact HB.out | apply below_alloc | apply pw_below_drewN | apply below_drew1) | exact HB.out)); (case side2 => exact Kd.R_tight rfl HO_12.out); rintro e w31 ⟨v249, rfl, ho0, hb, hkp⟩; refine ⟨_, rfl, ?_⟩; have n0_ := Aside0.mk (Kd.R_mono (ok' := fun k_ => True) ho0 (fun k_ hk_ => trivial)); have n1_ := Aside0.mk (hb); clear HB; clear HO_12; have HO250 := n0_; have HB := n1_; clear n0_ n1_; (try clear hb); (try clear hkp); (try clear ho0)))
                            go_ret2
                            exact ⟨_, by first | rfl | (simp [errW_none, errW_some] <;> rfl) | (simp [*, errW_none, errW_some] <;> rfl) | (((first | rw [pw_wdiv _ _ (by omega) (by omega)] | rw [pw_wdiv' _ _ (by omega) (by omega)] | rw [Go.IntWalk.wrap64_in _ (by omega)]); repeat (first | rw [pw_wdiv _ _ (by omega) (by omega)] | rw [pw_wdiv' _ _ (by omega) (by omega)] | rw [Go.IntWalk.wrap64_in _ (by omega)])); rfl), by first | exact Kd.R_nil _ _ _ _ _ | exact Kd.N_nil _ _ _ _ _ | exact Kd.V_nil _ _ _ _ _ | exact Kd.Q_nil _ _ _ _ _ | exact Kd.S_nil _ _ _ _ _, by repeat (first | (with_reducible first | exact HB.out | apply below_alloc | apply pw_below_drewN | apply below_drew1) | exact HB.out)⟩
                        · rw [if_neg c25] at H
                          have c25b0 : decide (x18_4 ≤ t246) = false := decide_eq_false c25
                          clear c25
                          have H' := Aside0.mk H
                          clear H
                          go_wp2
                          go_roundg k4
                          case measure => have := HJ3.out; have := HK2.out; have := HK3.out; have := HK4.out; omega
                          case rel => exact ⟨(x12_4), (wrap64 (x14_3 + 1)), (by first | rfl | (simp; done) | (simp [*]; done)), H', ⟨by have := HJ3.out; have := HK2.out; have := HK3.out; have := HK4.out; omega⟩, ⟨by (with_reducible repeat (first | apply Kd.R_alloc | apply Kd.R_drewN | apply Kd.R_drew)); exact HO_12.out⟩, ⟨by repeat (first | (with_reducible first | exact HB.out | apply below_alloc | apply pw_below_drewN | apply below_drew1) | exact HB.out)⟩⟩
                  · rw [if_neg c21] at H
                    have c21b0 : decide (x14_3 < t240) = false := decide_eq_false c21
                    clear c21
                    simp only [Option.some.injEq, Prod.mk.injEq] at H
                    obtain ⟨rfl, rfl⟩ := H
                    go_wp2
                    go_ret2
                    exact ⟨_, by first | rfl | (simp [errW_none, errW_some] <;> rfl) | (simp [*, errW_none, errW_some] <;> rfl) | (((first | rw [pw_wdiv _ _ (by omega) (by omega)] | rw [pw_wdiv' _ _ (by omega) (by omega)] | rw [Go.IntWalk.wrap64_in _ (by omega)]); repeat (first | rw [pw_wdiv _ _ (by omega) (by omega)] | rw [pw_wdiv' _ _ (by omega) (by omega)] | rw [Go.IntWalk.wrap64_in _ (by omega)])); rfl), by (with_reducible repeat (first | apply Kd.R_alloc | apply Kd.R_drewN | apply Kd.R_drew)); exact HO_12.out, by repeat (first | (with_reducible first | exact HB.out | apply below_alloc | apply pw_below_drewN | apply below_drew1) | exact HB.out)⟩

end Go.Proofs.Ytldcgkkbmnahiaa.Px
