-- Lean text written by this session's own program (wip/tools/myprint.py) for this claim
import Derived.Test.YtldcgkkbmnahiaaPxx0
import Derived.Test.YtldcgkkbmnahiaaPxx7
import Derived.Test.YtldcgkkbmnahiaaPxx8
import Derived.Test.YtldcgkkbmnahiaaPxx9
namespace Go.Proofs.Ytldcgkkbmnahiaa.Px
open Go.RowKit Go.Proofs.YtldcgkkbmnahiaaW.PrintWords Go.Proofs.YtldcgkkbmnahiaaW.PrintLast Go.Proofs.YtldcgkkbmnahiaaW.PrintMore
attribute [local go_sem] pw_max2 pw_min2 max_two min_two max_three min_three max_four min_four   -- for this text's walks alone
set_option linter.unusedVariables false
set_option linter.unusedSimpArgs false

/-! ### colophonref11_Read: function 10 -/
mutual
def colophonref11_Read.j0 : Nat → ByteArray → Int → Bool → Option ((List (S47)) × Int)
  | 0, _, _, _ => none
  | k + 1, x0, x1, x21 => if x21 = true then (some (([] : List (S47)), 1)) else ((colophonref08_U2.f x0 2).bind fun t276 => (if (x0.size : Int) < 4 then (colophonref11_Read.j1 k x0 x1 t276 true) else (if 0 ≤ 2 then (if 2 ≤ (x0.size : Int) then (if (x0.extract 0 2).toList = ([0, 0] : List UInt8) then (colophonref11_Read.j1 k x0 x1 t276 (decide ((x0.size : Int) < (wrap64 (4 + (wrap64 (8 * t276))))))) else (colophonref11_Read.j1 k x0 x1 t276 true)) else (none)) else (none))))
def colophonref11_Read.j1 : Nat → ByteArray → Int → Int → Bool → Option ((List (S47)) × Int)
  | 0, _, _, _, _ => none
  | k + 1, x0, x1, x6, x39 => if x39 = true then (some (([] : List (S47)), 110)) else (colophonref11_Read.l0 k x0 x1 (-1) (-1) (wrap64 (x6 - 1)))
def colophonref11_Read.l0 : Nat → ByteArray → Int → Int → Int → Int → Option ((List (S47)) × Int)
  | 0, _, _, _, _, _ => none
  | k + 1, x0, x1, x7, x8, x9 => if x9 ≥ 0 then ((colophonref08_U2.f x0 (wrap64 (4 + (wrap64 (8 * x9))))).bind fun t277 => ((colophonref08_U2.f x0 (wrap64 (6 + (wrap64 (8 * x9))))).bind fun t278 => (if t277 = 3 then (if t278 = 10 then (colophonref11_Read.j3 k x0 x1 x7 x8 x9 t277 t278 true) else (if t277 = 0 then (colophonref11_Read.j3 k x0 x1 x7 x8 x9 t277 t278 (t278 == 4)) else (colophonref11_Read.j3 k x0 x1 x7 x8 x9 t277 t278 false))) else (if t277 = 0 then (colophonref11_Read.j3 k x0 x1 x7 x8 x9 t277 t278 (t278 == 4)) else (colophonref11_Read.j3 k x0 x1 x7 x8 x9 t277 t278 false))))) else (if x7 ≥ 0 then ((colophonref08_U4.f x0 (wrap64 (8 + (wrap64 (8 * x7))))).bind fun t279 => (if t279 ≤ (x0.size : Int) then (if 0 ≤ t279 then ((colophonref11_twelve.f k (x0.extract (t279 : Int).toNat x0.size) x1).bind fun bt280 => (if bt280.2 = true then (some (bt280.1, 0)) else (some (([] : List (S47)), 110)))) else (none)) else (some (([] : List (S47)), 110)))) else (if x8 ≥ 0 then ((colophonref08_U4.f x0 (wrap64 (8 + (wrap64 (8 * x8))))).bind fun t284 => (if t284 ≤ (x0.size : Int) then (if 0 ≤ t284 then ((colophonref11_four.f k (x0.extract (t284 : Int).toNat x0.size) x1).bind fun bt285 => (if bt285.2 = true then (some (bt285.1, 0)) else (some (([] : List (S47)), 110)))) else (none)) else (some (([] : List (S47)), 110)))) else (some (([] : List (S47)), 110))))
def colophonref11_Read.j3 : Nat → ByteArray → Int → Int → Int → Int → Int → Int → Bool → Option ((List (S47)) × Int)
  | 0, _, _, _, _, _, _, _, _ => none
  | k + 1, x0, x1, x7, x8, x9, x10, x11, x69 => if x69 = true then (if x10 = 3 then (if x11 = 1 then (colophonref11_Read.l0 k x0 x1 x9 x9 (wrap64 (x9 - 1))) else (if x10 = 0 then (if x11 ≤ 3 then (colophonref11_Read.l0 k x0 x1 x9 x9 (wrap64 (x9 - 1))) else (colophonref11_Read.l0 k x0 x1 x9 x8 (wrap64 (x9 - 1)))) else (colophonref11_Read.l0 k x0 x1 x9 x8 (wrap64 (x9 - 1))))) else (if x10 = 0 then (if x11 ≤ 3 then (colophonref11_Read.l0 k x0 x1 x9 x9 (wrap64 (x9 - 1))) else (colophonref11_Read.l0 k x0 x1 x9 x8 (wrap64 (x9 - 1)))) else (colophonref11_Read.l0 k x0 x1 x9 x8 (wrap64 (x9 - 1))))) else (if x10 = 3 then (if x11 = 1 then (colophonref11_Read.l0 k x0 x1 x7 x9 (wrap64 (x9 - 1))) else (if x10 = 0 then (if x11 ≤ 3 then (colophonref11_Read.l0 k x0 x1 x7 x9 (wrap64 (x9 - 1))) else (colophonref11_Read.l0 k x0 x1 x7 x8 (wrap64 (x9 - 1)))) else (colophonref11_Read.l0 k x0 x1 x7 x8 (wrap64 (x9 - 1))))) else (if x10 = 0 then (if x11 ≤ 3 then (colophonref11_Read.l0 k x0 x1 x7 x9 (wrap64 (x9 - 1))) else (colophonref11_Read.l0 k x0 x1 x7 x8 (wrap64 (x9 - 1)))) else (colophonref11_Read.l0 k x0 x1 x7 x8 (wrap64 (x9 - 1)))))
end
def colophonref11_Read.f (k : Nat) (a0 : ByteArray) (a1 : Int) : Option ((List (S47)) × Int) := if a1 < 1 then (colophonref11_Read.j0 k a0 a1 true) else (colophonref11_Read.j0 k a0 a1 (decide (a1 > 4096)))
theorem colophonref11_Read.mono_l : ∀ k, (∀ y0 y1 y2, LeO (colophonref11_Read.j0 k y0 y1 y2) (colophonref11_Read.j0 (k + 1) y0 y1 y2)) ∧ (∀ y0 y1 y2 y3, LeO (colophonref11_Read.j1 k y0 y1 y2 y3) (colophonref11_Read.j1 (k + 1) y0 y1 y2 y3)) ∧ (∀ y0 y1 y2 y3 y4, LeO (colophonref11_Read.l0 k y0 y1 y2 y3 y4) (colophonref11_Read.l0 (k + 1) y0 y1 y2 y3 y4)) ∧ (∀ y0 y1 y2 y3 y4 y5 y6 y7, LeO (colophonref11_Read.j3 k y0 y1 y2 y3 y4 y5 y6 y7) (colophonref11_Read.j3 (k + 1) y0 y1 y2 y3 y4 y5 y6 y7))
  | 0 => ⟨fun _ _ _ r h => by simp [colophonref11_Read.j0] at h, fun _ _ _ _ r h => by simp [colophonref11_Read.j1] at h, fun _ _ _ _ _ r h => by simp [colophonref11_Read.l0] at h, fun _ _ _ _ _ _ _ _ r h => by simp [colophonref11_Read.j3] at h⟩
  | k + 1 => by
    obtain ⟨ih0, ih1, ih2, ih3⟩ := colophonref11_Read.mono_l k
    refine ⟨?_, ?_, ?_, ?_⟩
    · intro y0 y1 y2
      unfold colophonref11_Read.j0
      repeat' first
      | (with_reducible exact ih0 _ _ _)
      | (with_reducible exact ih1 _ _ _ _)
      | (with_reducible exact ih2 _ _ _ _ _)
      | (with_reducible exact ih3 _ _ _ _ _ _ _ _)
      | (with_reducible exact colophonref11_four.mono _ _ _)
      | (with_reducible exact colophonref11_twelve.mono _ _ _)
      | (with_reducible exact LeO.refl _)
      | (with_reducible exact LeO.none _)
      | (with_reducible refine LeO.ite ?_ ?_)
      | (with_reducible refine LeO.bind ?_ (fun _ => ?_))
      | exact ih0 _ _ _
      | exact ih1 _ _ _ _
      | exact ih2 _ _ _ _ _
      | exact ih3 _ _ _ _ _ _ _ _
      | exact colophonref11_four.mono _ _ _
      | exact colophonref11_twelve.mono _ _ _
      | exact LeO.none _
      | refine LeO.ite ?_ ?_
      | refine LeO.bind ?_ (fun _ => ?_)
    · intro y0 y1 y2 y3
      unfold colophonref11_Read.j1
      repeat' first
      | (with_reducible exact ih0 _ _ _)
      | (with_reducible exact ih1 _ _ _ _)
      | (with_reducible exact ih2 _ _ _ _ _)
      | (with_reducible exact ih3 _ _ _ _ _ _ _ _)
      | (with_reducible exact colophonref11_four.mono _ _ _)
      | (with_reducible exact colophonref11_twelve.mono _ _ _)
      | (with_reducible exact LeO.refl _)
      | (with_reducible exact LeO.none _)
      | (with_reducible refine LeO.ite ?_ ?_)
      | (with_reducible refine LeO.bind ?_ (fun _ => ?_))
      | exact ih0 _ _ _
      | exact ih1 _ _ _ _
      | exact ih2 _ _ _ _ _
      | exact ih3 _ _ _ _ _ _ _ _
      | exact colophonref11_four.mono _ _ _
      | exact colophonref11_twelve.mono _ _ _
      | exact LeO.none _
      | refine LeO.ite ?_ ?_
      | refine LeO.bind ?_ (fun _ => ?_)
    · intro y0 y1 y2 y3 y4
      unfold colophonref11_Read.l0
      repeat' first
      | (with_reducible exact ih0 _ _ _)
      | (with_reducible exact ih1 _ _ _ _)
      | (with_reducible exact ih2 _ _ _ _ _)
      | (with_reducible exact ih3 _ _ _ _ _ _ _ _)
      | (with_reducible exact colophonref11_four.mono _ _ _)
      | (with_reducible exact colophonref11_twelve.mono _ _ _)
      | (with_reducible exact LeO.refl _)
      | (with_reducible exact LeO.none _)
      | (with_reducible refine LeO.ite ?_ ?_)
      | (with_reducible refine LeO.bind ?_ (fun _ => ?_))
      | exact ih0 _ _ _
      | exact ih1 _ _ _ _
      | exact ih2 _ _ _ _ _
      | exact ih3 _ _ _ _ _ _ _ _
      | exact colophonref11_four.mono _ _ _
      | exact colophonref11_twelve.mono _ _ _
      | exact LeO.none _
      | refine LeO.ite ?_ ?_
      | refine LeO.bind ?_ (fun _ => ?_)
    · intro y0 y1 y2 y3 y4 y5 y6 y7
      unfold colophonref11_Read.j3
      repeat' first
      | (with_reducible exact ih0 _ _ _)
      | (with_reducible exact ih1 _ _ _ _)
      | (with_reducible exact ih2 _ _ _ _ _)
      | (with_reducible exact ih3 _ _ _ _ _ _ _ _)
      | (with_reducible exact colophonref11_four.mono _ _ _)
      | (with_reducible exact colophonref11_twelve.mono _ _ _)
      | (with_reducible exact LeO.refl _)
      | (with_reducible exact LeO.none _)
      | (with_reducible refine LeO.ite ?_ ?_)
      | (with_reducible refine LeO.bind ?_ (fun _ => ?_))
      | exact ih0 _ _ _
      | exact ih1 _ _ _ _
      | exact ih2 _ _ _ _ _
      | exact ih3 _ _ _ _ _ _ _ _
      | exact colophonref11_four.mono _ _ _
      | exact colophonref11_twelve.mono _ _ _
      | exact LeO.none _
      | refine LeO.ite ?_ ?_
      | refine LeO.bind ?_ (fun _ => ?_)
theorem colophonref11_Read.mono : ∀ a0 a1 k, LeO (colophonref11_Read.f k a0 a1) (colophonref11_Read.f (k + 1) a0 a1) := by
  intro a0 a1 k
  obtain ⟨ih0, ih1, ih2, ih3⟩ := colophonref11_Read.mono_l k
  unfold colophonref11_Read.f
  repeat' first
      | (with_reducible exact ih0 _ _ _)
      | (with_reducible exact ih1 _ _ _ _)
      | (with_reducible exact ih2 _ _ _ _ _)
      | (with_reducible exact ih3 _ _ _ _ _ _ _ _)
      | (with_reducible exact colophonref11_four.mono _ _ _)
      | (with_reducible exact colophonref11_twelve.mono _ _ _)
      | (with_reducible exact LeO.refl _)
      | (with_reducible exact LeO.none _)
      | (with_reducible refine LeO.ite ?_ ?_)
      | (with_reducible refine LeO.bind ?_ (fun _ => ?_))
      | exact ih0 _ _ _
      | exact ih1 _ _ _ _
      | exact ih2 _ _ _ _ _
      | exact ih3 _ _ _ _ _ _ _ _
      | exact colophonref11_four.mono _ _ _
      | exact colophonref11_twelve.mono _ _ _
      | exact LeO.none _
      | refine LeO.ite ?_ ?_
      | refine LeO.bind ?_ (fun _ => ?_)
set_option maxHeartbeats 8000000 in
set_option maxRecDepth 100000 in
theorem colophonref11_Read.calls (k : Nat) (a0 : ByteArray) (a1 : Int) (r1 : List (S47)) (r2 : Int) (w : World) (h : colophonref11_Read.f k a0 a1 = some (r1, r2)) :
    Calls Try.prog 10 #[.string a0, .int .i64 a1] w fun e w' => ∃ v0_ : Value, e = .returned (.tuple #[v0_, .int .i64 r2]) ∧ Kd.R k47 47 w' w.heap.size (fun _ => True) v0_ r1 ∧ Below w.heap.size w w' := by
  have HB := Aside0.mk (Below.refl w.heap.size w)
  have H : (if a1 < 1 then (colophonref11_Read.j0 k a0 a1 true) else (colophonref11_Read.j0 k a0 a1 (decide (a1 > 4096)))) = some (r1, r2) := h
  clear h
  have HC3 := Aside0.mk H
  clear H
  go_enter Try.func10, Try.ntmps10
  go_upto_region 1 with (fail)
  go_cut [21] (fun v21 wc => ∃ (kq : Nat) (x21_2 : Bool), v21 = .bool x21_2 ∧ Aside0 (colophonref11_Read.j0 kq a0 a1 x21_2 = some (r1, r2)) ∧ Aside0 (kq ≤ k) ∧ Aside0 (Below w.heap.size w wc))
  case first =>
    have H := HC3.out
    clear HC3
    by_cases c4 : a1 < 1
    · rw [if_pos c4] at H
      have c4b0 : decide (a1 < 1) = true := decide_eq_true c4
      clear c4
      (first | rw [c4b0] | (simp only [i64_w, i32_w]; rw [c4b0]) | skip)
      have H' := Aside0.mk H
      clear H
      go_wp2
      go_meet
      case rel => exact ⟨_, (true), (by first | rfl | (simp; done) | (simp [*]; done)), H', ⟨by first | omega | exact Nat.le_refl _⟩, ⟨by repeat (first | (with_reducible first | exact HB.out | apply below_alloc | apply pw_below_drewN | apply below_drew1) | exact HB.out)⟩⟩
    · rw [if_neg c4] at H
      have c4b0 : decide (a1 < 1) = false := decide_eq_false c4
      clear c4
      (first | rw [c4b0] | (simp only [i64_w, i32_w]; rw [c4b0]) | skip)
      have H' := Aside0.mk H
      clear H
      go_wp2
      go_meet
      case rel => exact ⟨_, (decide (a1 > 4096)), (by first | rfl | (simp; done) | (simp [*]; done)), H', ⟨by first | omega | exact Nat.le_refl _⟩, ⟨by repeat (first | (with_reducible first | exact HB.out | apply below_alloc | apply pw_below_drewN | apply below_drew1) | exact HB.out)⟩⟩
  case rest =>
    clear HC3
    try clear c1
    try clear p2
    try clear c4
    try clear c4b0
    obtain ⟨kq, x21_2, rfl, HA, HJ2, HB⟩ := hcut
    cases kq with
    | zero => exact absurd HA.out (by simp [colophonref11_Read.j0])
    | succ kj2 =>
      have H := HA.out
      clear HA
      simp only [colophonref11_Read.j0] at H
      by_cases c5 : x21_2 = true
      · subst c5
        have H1 : (some (([] : List (S47)), 1)) = some (r1, r2) := by rw [if_pos rfl] at H; exact H
        clear H
        have H := H1
        clear H1
        simp only [Option.some.injEq, Prod.mk.injEq] at H
        obtain ⟨rfl, rfl⟩ := H
        go_wp2
        go_ret2
        exact ⟨_, by first | rfl | (simp [errW_none, errW_some] <;> rfl) | (simp [*, errW_none, errW_some] <;> rfl) | (((first | rw [pw_wdiv _ _ (by omega) (by omega)] | rw [pw_wdiv' _ _ (by omega) (by omega)] | rw [Go.IntWalk.wrap64_in _ (by omega)]); repeat (first | rw [pw_wdiv _ _ (by omega) (by omega)] | rw [pw_wdiv' _ _ (by omega) (by omega)] | rw [Go.IntWalk.wrap64_in _ (by omega)])); rfl), by first | exact Kd.R_nil _ _ _ _ _ | exact Kd.N_nil _ _ _ _ _ | exact Kd.V_nil _ _ _ _ _ | exact Kd.Q_nil _ _ _ _ _ | exact Kd.S_nil _ _ _ _ _, by repeat (first | (with_reducible first | exact HB.out | apply below_alloc | apply pw_below_drewN | apply below_drew1) | exact HB.out)⟩
      · replace c5 := Bool.eq_false_iff.mpr c5
        subst c5
        have H1 : ((colophonref08_U2.f a0 2).bind fun t276 => (if (a0.size : Int) < 4 then (colophonref11_Read.j1 kj2 a0 a1 t276 true) else (if 0 ≤ 2 then (if 2 ≤ (a0.size : Int) then (if (a0.extract 0 2).toList = ([0, 0] : List UInt8) then (colophonref11_Read.j1 kj2 a0 a1 t276 (decide ((a0.size : Int) < (wrap64 (4 + (wrap64 (8 * t276))))))) else (colophonref11_Read.j1 kj2 a0 a1 t276 true)) else (none)) else (none)))) = some (r1, r2) := by rw [if_neg (show ¬ (false = true) by decide)] at H; exact H
        clear H
        have H := H1
        clear H1
        replace H := Option.bind_eq_some_iff.mp H
        obtain ⟨t276, A60, H⟩ := H
        replace H : (if (a0.size : Int) < 4 then (colophonref11_Read.j1 kj2 a0 a1 t276 true) else (if 0 ≤ 2 then (if 2 ≤ (a0.size : Int) then (if (a0.extract 0 2).toList = ([0, 0] : List UInt8) then (colophonref11_Read.j1 kj2 a0 a1 t276 (decide ((a0.size : Int) < (wrap64 (4 + (wrap64 (8 * t276))))))) else (colophonref11_Read.j1 kj2 a0 a1 t276 true)) else (none)) else (none))) = some (r1, r2) := H
        have A6 := Aside0.mk A60
        clear A60
        have HC7 := Aside0.mk H
        clear H
        go_upto_region 4 with (first | ((with_reducible refine gate_callee (f := 23) rfl ?_); refine goesL_ (some 23) rfl rfl Try.func23 (by kernel_rfl) rfl #[.string a0, .int .i64 2] rfl (by (try simp only [List.map_toArray, List.map_cons, List.map_nil]); first | done | rfl | (simp only [List.length_drop, List.length_take]; rfl)) ?_; (with_reducible refine (colophonref08_U2.calls a0 2 t276 _ A6.out).mono ?_); rintro e w' ⟨rfl, ⟨nd, rfl⟩⟩; refine ⟨_, rfl, ?_⟩))
        (try simp only [Act.put, List.setIfInBounds_toArray, List.set_cons_zero, List.set_cons_succ])
        go_cut [39] (fun v39 wc => ∃ (kq : Nat) (x39_6 : Bool), v39 = .bool x39_6 ∧ Aside0 (colophonref11_Read.j1 kq a0 a1 t276 x39_6 = some (r1, r2)) ∧ Aside0 (kq ≤ kj2) ∧ Aside0 (Below w.heap.size w wc))
        case first =>
          have H := HC7.out
          clear HC7
          by_cases c8 : (a0.size : Int) < 4
          · rw [if_pos c8] at H
            have c8b0 : decide ((a0.size : Int) < 4) = true := decide_eq_true c8
            have c8b1 : decide (a0.size < 4) = true := decide_eq_true (by omega)
            clear c8
            (first | rw [c8b0] | (simp only [i64_w, i32_w]; rw [c8b0]) | skip)
            have H' := Aside0.mk H
            clear H
            go_wp2
            go_meet
            case rel => exact ⟨_, (true), (by first | rfl | (simp; done) | (simp [*]; done)), H', ⟨by have := HJ2.out; first | omega | exact Nat.le_refl _⟩, ⟨by repeat (first | (with_reducible first | exact HB.out | apply below_alloc | apply pw_below_drewN | apply below_drew1) | exact HB.out)⟩⟩
          · rw [if_neg c8] at H
            have c8b0 : decide ((a0.size : Int) < 4) = false := decide_eq_false c8
            have c8b1 : decide (a0.size < 4) = false := decide_eq_false (by omega)
            clear c8
            (first | rw [c8b0] | (simp only [i64_w, i32_w]; rw [c8b0]) | skip)
            by_cases c9 : 0 ≤ 2
            · rw [if_pos c9] at H
              have c9b0 := eq_true c9
              have c9b1 : decide (0 ≤ 2) = true := decide_eq_true c9
              clear c9
              by_cases c10 : 2 ≤ (a0.size : Int)
              · rw [if_pos c10] at H
                have c10b0 := eq_true c10
                have c10b1 : decide (2 ≤ (a0.size : Int)) = true := decide_eq_true c10
                clear c10
                by_cases c11 : (a0.extract 0 2).toList = ([0, 0] : List UInt8)
                · rw [if_pos c11] at H
                  have c11b0 : ((a0.extract 0 2).toList == ([0, 0] : List UInt8)) = true := beq_iff_eq.mpr c11
                  have c11b1 : ((a0.extract 0 2).toList != ([0, 0] : List UInt8)) = false := bne_eq_false_iff_eq.mpr c11
                  clear c11
                  have H' := Aside0.mk H
                  clear H
                  go_wp2
                  go_meet
                  case rel => exact ⟨_, (decide ((a0.size : Int) < (wrap64 (4 + (wrap64 (8 * t276)))))), (by first | rfl | (simp; done) | (simp [*]; done)), H', ⟨by have := HJ2.out; first | omega | exact Nat.le_refl _⟩, ⟨by repeat (first | (with_reducible first | exact HB.out | apply below_alloc | apply pw_below_drewN | apply below_drew1) | exact HB.out)⟩⟩
                · rw [if_neg c11] at H
                  have c11b0 : ((a0.extract 0 2).toList == ([0, 0] : List UInt8)) = false := beq_eq_false_iff_ne.mpr c11
                  have c11b1 : ((a0.extract 0 2).toList != ([0, 0] : List UInt8)) = true := bne_iff_ne.mpr c11
                  have H' := Aside0.mk H
                  clear H
                  go_wp2
                  go_meet
                  case rel => exact ⟨_, (true), (by first | rfl | (simp; done) | (simp [*]; done)), H', ⟨by have := HJ2.out; first | omega | exact Nat.le_refl _⟩, ⟨by repeat (first | (with_reducible first | exact HB.out | apply below_alloc | apply pw_below_drewN | apply below_drew1) | exact HB.out)⟩⟩
              · rw [if_neg c10] at H
                exact absurd H (by simp)
            · rw [if_neg c9] at H
              exact absurd H (by simp)
        case rest =>
          clear HC7
          try clear c1
          try clear c2
          try clear p2
          try clear c4
          try clear c4b0
          try clear c5
          try clear p6
          try clear c8
          try clear c8b0
          try clear c8b1
          try clear c9
          try clear c9b0
          try clear c9b1
          try clear c10
          try clear c10b0
          try clear c10b1
          try clear c11
          try clear c11b0
          try clear c11b1
          try clear p2
          obtain ⟨kq, x39_6, rfl, HA, HJ6, HB⟩ := hcut
          cases kq with
          | zero => exact absurd HA.out (by simp [colophonref11_Read.j1])
          | succ kj6 =>
            have H := HA.out
            clear HA
            simp only [colophonref11_Read.j1] at H
            by_cases c12 : x39_6 = true
            · subst c12
              have H1 : (some (([] : List (S47)), 110)) = some (r1, r2) := by rw [if_pos rfl] at H; exact H
              clear H
              have H := H1
              clear H1
              simp only [Option.some.injEq, Prod.mk.injEq] at H
              obtain ⟨rfl, rfl⟩ := H
              go_wp2
              go_ret2
              exact ⟨_, by first | rfl | (simp [errW_none, errW_some] <;> rfl) | (simp [*, errW_none, errW_some] <;> rfl) | (((first | rw [pw_wdiv _ _ (by omega) (by omega)] | rw [pw_wdiv' _ _ (by omega) (by omega)] | rw [Go.IntWalk.wrap64_in _ (by omega)]); repeat (first | rw [pw_wdiv _ _ (by omega) (by omega)] | rw [pw_wdiv' _ _ (by omega) (by omega)] | rw [Go.IntWalk.wrap64_in _ (by omega)])); rfl), by first | exact Kd.R_nil _ _ _ _ _ | exact Kd.N_nil _ _ _ _ _ | exact Kd.V_nil _ _ _ _ _ | exact Kd.Q_nil _ _ _ _ _ | exact Kd.S_nil _ _ _ _ _, by repeat (first | (with_reducible first | exact HB.out | apply below_alloc | apply pw_below_drewN | apply below_drew1) | exact HB.out)⟩
            · replace c12 := Bool.eq_false_iff.mpr c12
              subst c12
              have H1 : (colophonref11_Read.l0 kj6 a0 a1 (-1) (-1) (wrap64 (t276 - 1))) = some (r1, r2) := by rw [if_neg (show ¬ (false = true) by decide)] at H; exact H
              clear H
              have H := H1
              clear H1
              have H' := Aside0.mk H
              clear H
              go_wp2
              go_loopg [7, 8, 9] kj6 (fun kq v7 v8 v9 w' => ∃ (x7_3 : Int) (x8_3 : Int) (x9_3 : Int), v7 = .int .i64 x7_3 ∧ v8 = .int .i64 x8_3 ∧ v9 = .int .i64 x9_3 ∧ Aside0 (colophonref11_Read.l0 kq a0 a1 x7_3 x8_3 x9_3 = some (r1, r2)) ∧ Aside0 (kq ≤ kj6) ∧ Aside0 (Below w.heap.size w w'))
              case atStart => exact ⟨((-1)), ((-1)), (wrap64 (t276 - 1)), (by first | rfl | (simp; done) | (simp [*]; done)), (by first | rfl | (simp; done) | (simp [*]; done)), (by first | rfl | (simp; done) | (simp [*]; done)), H', ⟨Nat.le_refl _⟩, ⟨by repeat (first | (with_reducible first | exact HB.out | apply below_alloc | apply pw_below_drewN | apply below_drew1) | exact HB.out)⟩⟩
              case round =>
                clear H'
                try clear c1
                try clear c2
                try clear p2
                try clear c4
                try clear c4b0
                try clear c5
                try clear p6
                try clear c8
                try clear c8b0
                try clear c8b1
                try clear c9
                try clear c9b0
                try clear c9b1
                try clear c10
                try clear c10b0
                try clear c10b1
                try clear c11
                try clear c11b0
                try clear c11b1
                try clear c12
                try clear p2
                try clear p6
                obtain ⟨x7_3, x8_3, x9_3, rfl, rfl, rfl, HA, HK3, HB⟩ := hrel
                cases gk with
                | zero => exact absurd HA.out (by simp [colophonref11_Read.l0])
                | succ k3 =>
                  have H := HA.out
                  clear HA
                  simp only [colophonref11_Read.l0] at H
                  by_cases c13 : x9_3 ≥ 0
                  · rw [if_pos c13] at H
                    have c13b0 : decide (0 ≤ x9_3) = true := decide_eq_true c13
                    clear c13
                    replace H := Option.bind_eq_some_iff.mp H
                    obtain ⟨t277, A140, H⟩ := H
                    replace H : ((colophonref08_U2.f a0 (wrap64 (6 + (wrap64 (8 * x9_3))))).bind fun t278 => (if t277 = 3 then (if t278 = 10 then (colophonref11_Read.j3 k3 a0 a1 x7_3 x8_3 x9_3 t277 t278 true) else (if t277 = 0 then (colophonref11_Read.j3 k3 a0 a1 x7_3 x8_3 x9_3 t277 t278 (t278 == 4)) else (colophonref11_Read.j3 k3 a0 a1 x7_3 x8_3 x9_3 t277 t278 false))) else (if t277 = 0 then (colophonref11_Read.j3 k3 a0 a1 x7_3 x8_3 x9_3 t277 t278 (t278 == 4)) else (colophonref11_Read.j3 k3 a0 a1 x7_3 x8_3 x9_3 t277 t278 false)))) = some (r1, r2) := H
                    have A14 := Aside0.mk A140
                    clear A140
                    replace H := Option.bind_eq_some_iff.mp H
                    obtain ⟨t278, A150, H⟩ := H
                    replace H : (if t277 = 3 then (if t278 = 10 then (colophonref11_Read.j3 k3 a0 a1 x7_3 x8_3 x9_3 t277 t278 true) else (if t277 = 0 then (colophonref11_Read.j3 k3 a0 a1 x7_3 x8_3 x9_3 t277 t278 (t278 == 4)) else (colophonref11_Read.j3 k3 a0 a1 x7_3 x8_3 x9_3 t277 t278 false))) else (if t277 = 0 then (colophonref11_Read.j3 k3 a0 a1 x7_3 x8_3 x9_3 t277 t278 (t278 == 4)) else (colophonref11_Read.j3 k3 a0 a1 x7_3 x8_3 x9_3 t277 t278 false))) = some (r1, r2) := H
                    have A15 := Aside0.mk A150
                    clear A150
                    have HC16 := Aside0.mk H
                    clear H
                    go_upto_region 11 with (first | ((with_reducible refine gate_callee (f := 23) rfl ?_); refine goesL_ (some 50) rfl rfl Try.func23 (by kernel_rfl) rfl #[.string a0, .int .i64 (wrap64 (4 + (wrap64 (8 * x9_3))))] rfl (by (try simp only [List.map_toArray, List.map_cons, List.map_nil]); first | done | rfl | (simp only [List.length_drop, List.length_take]; rfl)) ?_; (with_reducible refine (colophonref08_U2.calls a0 (wrap64 (4 + (wrap64 (8 * x9_3)))) t277 _ A14.out).mono ?_); rintro e w' ⟨rfl, ⟨nd, rfl⟩⟩; refine ⟨_, rfl, ?_⟩) | ((with_reducible refine gate_callee (f := 23) rfl ?_); refine goesL_ (some 55) rfl rfl Try.func23 (by kernel_rfl) rfl #[.string a0, .int .i64 (wrap64 (6 + (wrap64 (8 * x9_3))))] rfl (by (try simp only [List.map_toArray, List.map_cons, List.map_nil]); first | done | rfl | (simp only [List.length_drop, List.length_take]; rfl)) ?_; (with_reducible refine (colophonref08_U2.calls a0 (wrap64 (6 + (wrap64 (8 * x9_3)))) t278 _ A15.out).mono ?_); rintro e w' ⟨rfl, ⟨nd, rfl⟩⟩; refine ⟨_, rfl, ?_⟩))
                    (try simp only [Act.put, List.setIfInBounds_toArray, List.set_cons_zero, List.set_cons_succ])
                    go_cut [69] (fun v69 wc => ∃ (kq : Nat) (x69_15 : Bool), v69 = .bool x69_15 ∧ Aside0 (colophonref11_Read.j3 kq a0 a1 x7_3 x8_3 x9_3 t277 t278 x69_15 = some (r1, r2)) ∧ Aside0 (kq ≤ k3) ∧ Aside0 (Below w.heap.size w wc))
                    case first =>
                      have H := HC16.out
                      clear HC16
                      by_cases c17 : t277 = 3
                      · rw [if_pos c17] at H
                        have c17b0 : (t277 == 3) = true := beq_iff_eq.mpr c17
                        have c17b1 : (t277 != 3) = false := bne_eq_false_iff_eq.mpr c17
                        clear c17
                        (first | rw [c17b0] | (simp only [i64_w, i32_w]; rw [c17b0]) | skip)
                        by_cases c18 : t278 = 10
                        · rw [if_pos c18] at H
                          have c18b0 : (t278 == 10) = true := beq_iff_eq.mpr c18
                          have c18b1 : (t278 != 10) = false := bne_eq_false_iff_eq.mpr c18
                          clear c18
                          have H' := Aside0.mk H
                          clear H
                          go_wp2
                          go_meet
                          case rel => exact ⟨_, (true), (by first | rfl | (simp; done) | (simp [*]; done)), H', ⟨by have := HJ2.out; have := HJ6.out; have := HK3.out; first | omega | exact Nat.le_refl _⟩, ⟨by repeat (first | (with_reducible first | exact HB.out | apply below_alloc | apply pw_below_drewN | apply below_drew1) | exact HB.out)⟩⟩
                        · rw [if_neg c18] at H
                          have c18b0 : (t278 == 10) = false := beq_eq_false_iff_ne.mpr c18
                          have c18b1 : (t278 != 10) = true := bne_iff_ne.mpr c18
                          by_cases c19 : t277 = 0
                          · rw [if_pos c19] at H
                            have c19b0 : (t277 == 0) = true := beq_iff_eq.mpr c19
                            have c19b1 : (t277 != 0) = false := bne_eq_false_iff_eq.mpr c19
                            clear c19
                            have H' := Aside0.mk H
                            clear H
                            go_wp2
                            go_meet
                            case rel => exact ⟨_, ((t278 == 4)), (by first | rfl | (simp; done) | (simp [*]; done)), H', ⟨by have := HJ2.out; have := HJ6.out; have := HK3.out; first | omega | exact Nat.le_refl _⟩, ⟨by repeat (first | (with_reducible first | exact HB.out | apply below_alloc | apply pw_below_drewN | apply below_drew1) | exact HB.out)⟩⟩
                          · rw [if_neg c19] at H
                            have c19b0 : (t277 == 0) = false := beq_eq_false_iff_ne.mpr c19
                            have c19b1 : (t277 != 0) = true := bne_iff_ne.mpr c19
                            have H' := Aside0.mk H
                            clear H
                            go_wp2
                            go_meet
                            case rel => exact ⟨_, (false), (by first | rfl | (simp; done) | (simp [*]; done)), H', ⟨by have := HJ2.out; have := HJ6.out; have := HK3.out; first | omega | exact Nat.le_refl _⟩, ⟨by repeat (first | (with_reducible first | exact HB.out | apply below_alloc | apply pw_below_drewN | apply below_drew1) | exact HB.out)⟩⟩
                      · rw [if_neg c17] at H
                        have c17b0 : (t277 == 3) = false := beq_eq_false_iff_ne.mpr c17
                        have c17b1 : (t277 != 3) = true := bne_iff_ne.mpr c17
                        (first | rw [c17b0] | (simp only [i64_w, i32_w]; rw [c17b0]) | skip)
                        by_cases c20 : t277 = 0
                        · rw [if_pos c20] at H
                          have c20b0 : (t277 == 0) = true := beq_iff_eq.mpr c20
                          have c20b1 : (t277 != 0) = false := bne_eq_false_iff_eq.mpr c20
                          clear c20
                          have H' := Aside0.mk H
                          clear H
                          go_wp2
                          go_meet
                          case rel => exact ⟨_, ((t278 == 4)), (by first | rfl | (simp; done) | (simp [*]; done)), H', ⟨by have := HJ2.out; have := HJ6.out; have := HK3.out; first | omega | exact Nat.le_refl _⟩, ⟨by repeat (first | (with_reducible first | exact HB.out | apply below_alloc | apply pw_below_drewN | apply below_drew1) | exact HB.out)⟩⟩
                        · rw [if_neg c20] at H
                          have c20b0 : (t277 == 0) = false := beq_eq_false_iff_ne.mpr c20
                          have c20b1 : (t277 != 0) = true := bne_iff_ne.mpr c20
                          have H' := Aside0.mk H
                          clear H
                          go_wp2
                          go_meet
                          case rel => exact ⟨_, (false), (by first | rfl | (simp; done) | (simp [*]; done)), H', ⟨by have := HJ2.out; have := HJ6.out; have := HK3.out; first | omega | exact Nat.le_refl _⟩, ⟨by repeat (first | (with_reducible first | exact HB.out | apply below_alloc | apply pw_below_drewN | apply below_drew1) | exact HB.out)⟩⟩
                    case rest =>
                      clear HC16
                      try clear c1
                      try clear c2
                      try clear p2
                      try clear c4
                      try clear c4b0
                      try clear c5
                      try clear p6
                      try clear c8
                      try clear c8b0
                      try clear c8b1
                      try clear c9
                      try clear c9b0
                      try clear c9b1
                      try clear c10
                      try clear c10b0
                      try clear c10b1
                      try clear c11
                      try clear c11b0
                      try clear c11b1
                      try clear c12
                      try clear c13
                      try clear c13b0
                      try clear c17
                      try clear c17b0
                      try clear c17b1
                      try clear c18
                      try clear c18b0
                      try clear c18b1
                      try clear c19
                      try clear c19b0
                      try clear c19b1
                      try clear c20
                      try clear c20b0
                      try clear c20b1
                      try clear p2
                      try clear p6
                      obtain ⟨kq, x69_15, rfl, HA, HJ15, HB⟩ := hcut
                      cases kq with
                      | zero => exact absurd HA.out (by simp [colophonref11_Read.j3])
                      | succ kj15 =>
                        have H := HA.out
                        clear HA
                        simp only [colophonref11_Read.j3] at H
                        by_cases c21 : x69_15 = true
                        · subst c21
                          have H1 : (if t277 = 3 then (if t278 = 1 then (colophonref11_Read.l0 kj15 a0 a1 x9_3 x9_3 (wrap64 (x9_3 - 1))) else (if t277 = 0 then (if t278 ≤ 3 then (colophonref11_Read.l0 kj15 a0 a1 x9_3 x9_3 (wrap64 (x9_3 - 1))) else (colophonref11_Read.l0 kj15 a0 a1 x9_3 x8_3 (wrap64 (x9_3 - 1)))) else (colophonref11_Read.l0 kj15 a0 a1 x9_3 x8_3 (wrap64 (x9_3 - 1))))) else (if t277 = 0 then (if t278 ≤ 3 then (colophonref11_Read.l0 kj15 a0 a1 x9_3 x9_3 (wrap64 (x9_3 - 1))) else (colophonref11_Read.l0 kj15 a0 a1 x9_3 x8_3 (wrap64 (x9_3 - 1)))) else (colophonref11_Read.l0 kj15 a0 a1 x9_3 x8_3 (wrap64 (x9_3 - 1))))) = some (r1, r2) := by rw [if_pos rfl] at H; exact H
                          clear H
                          have H := H1
                          clear H1
                          by_cases c22 : t277 = 3
                          · rw [if_pos c22] at H
                            have c22b0 : (t277 == 3) = true := beq_iff_eq.mpr c22
                            have c22b1 : (t277 != 3) = false := bne_eq_false_iff_eq.mpr c22
                            clear c22
                            by_cases c23 : t278 = 1
                            · rw [if_pos c23] at H
                              have c23b0 : (t278 == 1) = true := beq_iff_eq.mpr c23
                              have c23b1 : (t278 != 1) = false := bne_eq_false_iff_eq.mpr c23
                              clear c23
                              have H' := Aside0.mk H
                              clear H
                              go_wp2
                              go_roundg kj15
                              case measure => have := HJ2.out; have := HJ6.out; have := HK3.out; have := HJ15.out; omega
                              case rel => exact ⟨(x9_3), (x9_3), (wrap64 (x9_3 - 1)), (by first | rfl | (simp; done) | (simp [*]; done)), (by first | rfl | (simp; done) | (simp [*]; done)), (by first | rfl | (simp; done) | (simp [*]; done)), H', ⟨by have := HJ2.out; have := HJ6.out; have := HK3.out; have := HJ15.out; omega⟩, ⟨by repeat (first | (with_reducible first | exact HB.out | apply below_alloc | apply pw_below_drewN | apply below_drew1) | exact HB.out)⟩⟩
                            · rw [if_neg c23] at H
                              have c23b0 : (t278 == 1) = false := beq_eq_false_iff_ne.mpr c23
                              have c23b1 : (t278 != 1) = true := bne_iff_ne.mpr c23
                              by_cases c24 : t277 = 0
                              · rw [if_pos c24] at H
                                have c24b0 : (t277 == 0) = true := beq_iff_eq.mpr c24
                                have c24b1 : (t277 != 0) = false := bne_eq_false_iff_eq.mpr c24
                                clear c24
                                by_cases c25 : t278 ≤ 3
                                · rw [if_pos c25] at H
                                  have c25b0 : decide (t278 ≤ 3) = true := decide_eq_true c25
                                  clear c25
                                  have H' := Aside0.mk H
                                  clear H
                                  go_wp2
                                  go_roundg kj15
                                  case measure => have := HJ2.out; have := HJ6.out; have := HK3.out; have := HJ15.out; omega
                                  case rel => exact ⟨(x9_3), (x9_3), (wrap64 (x9_3 - 1)), (by first | rfl | (simp; done) | (simp [*]; done)), (by first | rfl | (simp; done) | (simp [*]; done)), (by first | rfl | (simp; done) | (simp [*]; done)), H', ⟨by have := HJ2.out; have := HJ6.out; have := HK3.out; have := HJ15.out; omega⟩, ⟨by repeat (first | (with_reducible first | exact HB.out | apply below_alloc | apply pw_below_drewN | apply below_drew1) | exact HB.out)⟩⟩
                                · rw [if_neg c25] at H
                                  have c25b0 : decide (t278 ≤ 3) = false := decide_eq_false c25
                                  clear c25
                                  have H' := Aside0.mk H
                                  clear H
                                  go_wp2
                                  go_roundg kj15
                                  case measure => have := HJ2.out; have := HJ6.out; have := HK3.out; have := HJ15.out; omega
                                  case rel => exact ⟨(x9_3), (x8_3), (wrap64 (x9_3 - 1)), (by first | rfl | (simp; done) | (simp [*]; done)), (by first | rfl | (simp; done) | (simp [*]; done)), (by first | rfl | (simp; done) | (simp [*]; done)), H', ⟨by have := HJ2.out; have := HJ6.out; have := HK3.out; have := HJ15.out; omega⟩, ⟨by repeat (first | (with_reducible first | exact HB.out | apply below_alloc | apply pw_below_drewN | apply below_drew1) | exact HB.out)⟩⟩
                              · rw [if_neg c24] at H
                                have c24b0 : (t277 == 0) = false := beq_eq_false_iff_ne.mpr c24
                                have c24b1 : (t277 != 0) = true := bne_iff_ne.mpr c24
                                have H' := Aside0.mk H
                                clear H
                                go_wp2
                                go_roundg kj15
                                case measure => have := HJ2.out; have := HJ6.out; have := HK3.out; have := HJ15.out; omega
                                case rel => exact ⟨(x9_3), (x8_3), (wrap64 (x9_3 - 1)), (by first | rfl | (simp; done) | (simp [*]; done)), (by first | rfl | (simp; done) | (simp [*]; done)), (by first | rfl | (simp; done) | (simp [*]; done)), H', ⟨by have := HJ2.out; have := HJ6.out; have := HK3.out; have := HJ15.out; omega⟩, ⟨by repeat (first | (with_reducible first | exact HB.out | apply below_alloc | apply pw_below_drewN | apply below_drew1) | exact HB.out)⟩⟩
                          · rw [if_neg c22] at H
                            have c22b0 : (t277 == 3) = false := beq_eq_false_iff_ne.mpr c22
                            have c22b1 : (t277 != 3) = true := bne_iff_ne.mpr c22
                            by_cases c26 : t277 = 0
                            · rw [if_pos c26] at H
                              have c26b0 : (t277 == 0) = true := beq_iff_eq.mpr c26
                              have c26b1 : (t277 != 0) = false := bne_eq_false_iff_eq.mpr c26
                              clear c26
                              by_cases c27 : t278 ≤ 3
                              · rw [if_pos c27] at H
                                have c27b0 : decide (t278 ≤ 3) = true := decide_eq_true c27
                                clear c27
                                have H' := Aside0.mk H
                                clear H
                                go_wp2
                                go_roundg kj15
                                case measure => have := HJ2.out; have := HJ6.out; have := HK3.out; have := HJ15.out; omega
                                case rel => exact ⟨(x9_3), (x9_3), (wrap64 (x9_3 - 1)), (by first | rfl | (simp; done) | (simp [*]; done)), (by first | rfl | (simp; done) | (simp [*]; done)), (by first | rfl | (simp; done) | (simp [*]; done)), H', ⟨by have := HJ2.out; have := HJ6.out; have := HK3.out; have := HJ15.out; omega⟩, ⟨by repeat (first | (with_reducible first | exact HB.out | apply below_alloc | apply pw_below_drewN | apply below_drew1) | exact HB.out)⟩⟩
                              · rw [if_neg c27] at H
                                have c27b0 : decide (t278 ≤ 3) = false := decide_eq_false c27
                                clear c27
                                have H' := Aside0.mk H
                                clear H
                                go_wp2
                                go_roundg kj15
                                case measure => have := HJ2.out; have := HJ6.out; have := HK3.out; have := HJ15.out; omega
                                case rel => exact ⟨(x9_3), (x8_3), (wrap64 (x9_3 - 1)), (by first | rfl | (simp; done) | (simp [*]; done)), (by first | rfl | (simp; done) | (simp [*]; done)), (by first | rfl | (simp; done) | (simp [*]; done)), H', ⟨by have := HJ2.out; have := HJ6.out; have := HK3.out; have := HJ15.out; omega⟩, ⟨by repeat (first | (with_reducible first | exact HB.out | apply below_alloc | apply pw_below_drewN | apply below_drew1) | exact HB.out)⟩⟩
                            · rw [if_neg c26] at H
                              have c26b0 : (t277 == 0) = false := beq_eq_false_iff_ne.mpr c26
                              have c26b1 : (t277 != 0) = true := bne_iff_ne.mpr c26
                              have H' := Aside0.mk H
                              clear H
                              go_wp2
                              go_roundg kj15
                              case measure => have := HJ2.out; have := HJ6.out; have := HK3.out; have := HJ15.out; omega
                              case rel => exact ⟨(x9_3), (x8_3), (wrap64 (x9_3 - 1)), (by first | rfl | (simp; done) | (simp [*]; done)), (by first | rfl | (simp; done) | (simp [*]; done)), (by first | rfl | (simp; done) | (simp [*]; done)), H', ⟨by have := HJ2.out; have := HJ6.out; have := HK3.out; have := HJ15.out; omega⟩, ⟨by repeat (first | (with_reducible first | exact HB.out | apply below_alloc | apply pw_below_drewN | apply below_drew1) | exact HB.out)⟩⟩
                        · replace c21 := Bool.eq_false_iff.mpr c21
                          subst c21
                          have H1 : (if t277 = 3 then (if t278 = 1 then (colophonref11_Read.l0 kj15 a0 a1 x7_3 x9_3 (wrap64 (x9_3 - 1))) else (if t277 = 0 then (if t278 ≤ 3 then (colophonref11_Read.l0 kj15 a0 a1 x7_3 x9_3 (wrap64 (x9_3 - 1))) else (colophonref11_Read.l0 kj15 a0 a1 x7_3 x8_3 (wrap64 (x9_3 - 1)))) else (colophonref11_Read.l0 kj15 a0 a1 x7_3 x8_3 (wrap64 (x9_3 - 1))))) else (if t277 = 0 then (if t278 ≤ 3 then (colophonref11_Read.l0 kj15 a0 a1 x7_3 x9_3 (wrap64 (x9_3 - 1))) else (colophonref11_Read.l0 kj15 a0 a1 x7_3 x8_3 (wrap64 (x9_3 - 1)))) else (colophonref11_Read.l0 kj15 a0 a1 x7_3 x8_3 (wrap64 (x9_3 - 1))))) = some (r1, r2) := by rw [if_neg (show ¬ (false = true) by decide)] at H; exact H
                          clear H
                          have H := H1
                          clear H1
                          by_cases c28 : t277 = 3
                          · rw [if_pos c28] at H
                            have c28b0 : (t277 == 3) = true := beq_iff_eq.mpr c28
                            have c28b1 : (t277 != 3) = false := bne_eq_false_iff_eq.mpr c28
                            clear c28
                            by_cases c29 : t278 = 1
                            · rw [if_pos c29] at H
                              have c29b0 : (t278 == 1) = true := beq_iff_eq.mpr c29
                              have c29b1 : (t278 != 1) = false := bne_eq_false_iff_eq.mpr c29
                              clear c29
                              have H' := Aside0.mk H
                              clear H
                              go_wp2
                              go_roundg kj15
                              case measure => have := HJ2.out; have := HJ6.out; have := HK3.out; have := HJ15.out; omega
                              case rel => exact ⟨(x7_3), (x9_3), (wrap64 (x9_3 - 1)), (by first | rfl | (simp; done) | (simp [*]; done)), (by first | rfl | (simp; done) | (simp [*]; done)), (by first | rfl | (simp; done) | (simp [*]; done)), H', ⟨by have := HJ2.out; have := HJ6.out; have := HK3.out; have := HJ15.out; omega⟩, ⟨by repeat (first | (with_reducible first | exact HB.out | apply below_alloc | apply pw_below_drewN | apply below_drew1) | exact HB.out)⟩⟩
                            · rw [if_neg c29] at H
                              have c29b0 : (t278 == 1) = false := beq_eq_false_iff_ne.mpr c29
                              have c29b1 : (t278 != 1) = true := bne_iff_ne.mpr c29
                              by_cases c30 : t277 = 0
                              · rw [if_pos c30] at H
                                have c30b0 : (t277 == 0) = true := beq_iff_eq.mpr c30
                                have c30b1 : (t277 != 0) = false := bne_eq_false_iff_eq.mpr c30
                                clear c30
                                by_cases c31 : t278 ≤ 3
                                · rw [if_pos c31] at H
                                  have c31b0 : decide (t278 ≤ 3) = true := decide_eq_true c31
                                  clear c31
                                  have H' := Aside0.mk H
                                  clear H
                                  go_wp2
                                  go_roundg kj15
                                  case measure => have := HJ2.out; have := HJ6.out; have := HK3.out; have := HJ15.out; omega
                                  case rel => exact ⟨(x7_3), (x9_3), (wrap64 (x9_3 - 1)), (by first | rfl | (simp; done) | (simp [*]; done)), (by first | rfl | (simp; done) | (simp [*]; done)), (by first | rfl | (simp; done) | (simp [*]; done)), H', ⟨by have := HJ2.out; have := HJ6.out; have := HK3.out; have := HJ15.out; omega⟩, ⟨by repeat (first | (with_reducible first | exact HB.out | apply below_alloc | apply pw_below_drewN | apply below_drew1) | exact HB.out)⟩⟩
                                · rw [if_neg c31] at H
                                  have c31b0 : decide (t278 ≤ 3) = false := decide_eq_false c31
                                  clear c31
                                  have H' := Aside0.mk H
                                  clear H
                                  go_wp2
                                  go_roundg kj15
                                  case measure => have := HJ2.out; have := HJ6.out; have := HK3.out; have := HJ15.out; omega
                                  case rel => exact ⟨(x7_3), (x8_3), (wrap64 (x9_3 - 1)), (by first | rfl | (simp; done) | (simp [*]; done)), (by first | rfl | (simp; done) | (simp [*]; done)), (by first | rfl | (simp; done) | (simp [*]; done)), H', ⟨by have := HJ2.out; have := HJ6.out; have := HK3.out; have := HJ15.out; omega⟩, ⟨by repeat (first | (with_reducible first | exact HB.out | apply below_alloc | apply pw_below_drewN | apply below_drew1) | exact HB.out)⟩⟩
                              · rw [if_neg c30] at H
                                have c30b0 : (t277 == 0) = false := beq_eq_false_iff_ne.mpr c30
                                have c30b1 : (t277 != 0) = true := bne_iff_ne.mpr c30
                                have H' := Aside0.mk H
                                clear H
                                go_wp2
                                go_roundg kj15
                                case measure => have := HJ2.out; have := HJ6.out; have := HK3.out; have := HJ15.out; omega
                                case rel => exact ⟨(x7_3), (x8_3), (wrap64 (x9_3 - 1)), (by first | rfl | (simp; done) | (simp [*]; done)), (by first | rfl | (simp; done) | (simp [*]; done)), (by first | rfl | (simp; done) | (simp [*]; done)), H', ⟨by have := HJ2.out; have := HJ6.out; have := HK3.out; have := HJ15.out; omega⟩, ⟨by repeat (first | (with_reducible first | exact HB.out | apply below_alloc | apply pw_below_drewN | apply below_drew1) | exact HB.out)⟩⟩
                          · rw [if_neg c28] at H
                            have c28b0 : (t277 == 3) = false := beq_eq_false_iff_ne.mpr c28
                            have c28b1 : (t277 != 3) = true := bne_iff_ne.mpr c28
                            by_cases c32 : t277 = 0
                            · rw [if_pos c32] at H
                              have c32b0 : (t277 == 0) = true := beq_iff_eq.mpr c32
                              have c32b1 : (t277 != 0) = false := bne_eq_false_iff_eq.mpr c32
                              clear c32
                              by_cases c33 : t278 ≤ 3
                              · rw [if_pos c33] at H
                                have c33b0 : decide (t278 ≤ 3) = true := decide_eq_true c33
                                clear c33
                                have H' := Aside0.mk H
                                clear H
                                go_wp2
                                go_roundg kj15
                                case measure => have := HJ2.out; have := HJ6.out; have := HK3.out; have := HJ15.out; omega
                                case rel => exact ⟨(x7_3), (x9_3), (wrap64 (x9_3 - 1)), (by first | rfl | (simp; done) | (simp [*]; done)), (by first | rfl | (simp; done) | (simp [*]; done)), (by first | rfl | (simp; done) | (simp [*]; done)), H', ⟨by have := HJ2.out; have := HJ6.out; have := HK3.out; have := HJ15.out; omega⟩, ⟨by repeat (first | (with_reducible first | exact HB.out | apply below_alloc | apply pw_below_drewN | apply below_drew1) | exact HB.out)⟩⟩
                              · rw [if_neg c33] at H
                                have c33b0 : decide (t278 ≤ 3) = false := decide_eq_false c33
                                clear c33
                                have H' := Aside0.mk H
                                clear H
                                go_wp2
                                go_roundg kj15
                                case measure => have := HJ2.out; have := HJ6.out; have := HK3.out; have := HJ15.out; omega
                                case rel => exact ⟨(x7_3), (x8_3), (wrap64 (x9_3 - 1)), (by first | rfl | (simp; done) | (simp [*]; done)), (by first | rfl | (simp; done) | (simp [*]; done)), (by first | rfl | (simp; done) | (simp [*]; done)), H', ⟨by have := HJ2.out; have := HJ6.out; have := HK3.out; have := HJ15.out; omega⟩, ⟨by repeat (first | (with_reducible first | exact HB.out | apply below_alloc | apply pw_below_drewN | apply below_drew1) | exact HB.out)⟩⟩
                            · rw [if_neg c32] at H
                              have c32b0 : (t277 == 0) = false := beq_eq_false_iff_ne.mpr c32
                              have c32b1 : (t277 != 0) = true := bne_iff_ne.mpr c32
                              have H' := Aside0.mk H
                              clear H
                              go_wp2
                              go_roundg kj15
                              case measure => have := HJ2.out; have := HJ6.out; have := HK3.out; have := HJ15.out; omega
                              case rel => exact ⟨(x7_3), (x8_3), (wrap64 (x9_3 - 1)), (by first | rfl | (simp; done) | (simp [*]; done)), (by first | rfl | (simp; done) | (simp [*]; done)), (by first | rfl | (simp; done) | (simp [*]; done)), H', ⟨by have := HJ2.out; have := HJ6.out; have := HK3.out; have := HJ15.out; omega⟩, ⟨by repeat (first | (with_reducible first | exact HB.out | apply below_alloc | apply pw_below_drewN | apply below_drew1) | exact HB.out)⟩⟩
                  · rw [if_neg c13] at H
                    have c13b0 : decide (0 ≤ x9_3) = false := decide_eq_false c13
                    clear c13
                    by_cases c34 : x7_3 ≥ 0
                    · rw [if_pos c34] at H
                      have c34b0 : decide (0 ≤ x7_3) = true := decide_eq_true c34
                      clear c34
                      replace H := Option.bind_eq_some_iff.mp H
                      obtain ⟨t279, A350, H⟩ := H
                      replace H : (if t279 ≤ (a0.size : Int) then (if 0 ≤ t279 then ((colophonref11_twelve.f k3 (a0.extract (t279 : Int).toNat a0.size) a1).bind fun bt280 => (if bt280.2 = true then (some (bt280.1, 0)) else (some (([] : List (S47)), 110)))) else (none)) else (some (([] : List (S47)), 110))) = some (r1, r2) := H
                      have A35 := Aside0.mk A350
                      clear A350
                      by_cases c36 : t279 ≤ (a0.size : Int)
                      · rw [if_pos c36] at H
                        have c36b0 : decide (t279 ≤ (a0.size : Int)) = true := decide_eq_true c36
                        clear c36
                        by_cases c37 : 0 ≤ t279
                        · rw [if_pos c37] at H
                          have c37b0 := eq_true c37
                          have c37b1 : decide (0 ≤ t279) = true := decide_eq_true c37
                          clear c37
                          have c38b0 := eq_true (of_decide_eq_true (by first | (with_reducible assumption) | assumption) : t279 ≤ (a0.size : Int))
                          replace H := Option.bind_eq_some_iff.mp H
                          obtain ⟨⟨t280, t281⟩, A390, H⟩ := H
                          replace H : (if t281 = true then (some (t280, 0)) else (some (([] : List (S47)), 110))) = some (r1, r2) := H
                          have A39 := Aside0.mk A390
                          clear A390
                          by_cases c40 : t281 = true
                          · subst c40
                            have H1 : (some (t280, 0)) = some (r1, r2) := by rw [if_pos rfl] at H; exact H
                            clear H
                            have H := H1
                            clear H1
                            simp only [Option.some.injEq, Prod.mk.injEq] at H
                            obtain ⟨rfl, rfl⟩ := H
                            go_wp2_with (first | ((with_reducible refine gate_callee (f := 24) rfl ?_); refine goesL_ (some 92) rfl rfl Try.func24 (by kernel_rfl) rfl #[.string a0, .int .i64 (wrap64 (8 + (wrap64 (8 * x7_3))))] rfl (by (try simp only [List.map_toArray, List.map_cons, List.map_nil]); first | done | rfl | (simp only [List.length_drop, List.length_take]; rfl)) ?_; (with_reducible refine (colophonref08_U4.calls a0 (wrap64 (8 + (wrap64 (8 * x7_3)))) t279 _ A35.out).mono ?_); rintro e w' ⟨rfl, ⟨nd, rfl⟩⟩; refine ⟨_, rfl, ?_⟩) | ((with_reducible refine gate_callee (f := 25) rfl ?_); refine goesL_ (some 102) rfl rfl Try.func25 (by kernel_rfl) rfl #[.string (a0.extract (t279 : Int).toNat a0.size), .int .i64 a1] rfl (by (try simp only [List.map_toArray, List.map_cons, List.map_nil]); first | done | rfl | (simp only [List.length_drop, List.length_take]; rfl)) ?_; (with_reducible refine (colophonref11_twelve.calls k3 (a0.extract (t279 : Int).toNat a0.size) a1 t280 true _ A39.out).mono ?_); rintro e w41 ⟨v282, rfl, ho0, hb⟩; refine ⟨_, rfl, ?_⟩; have n0_ := Aside0.mk (Kd.R_lower ho0 (below_size (by repeat (first | (with_reducible first | exact HB.out | apply below_alloc | apply pw_below_drewN | apply below_drew1) | exact HB.out)))); have n1_ := Aside0.mk (below_step (by repeat (first | (with_reducible first | exact HB.out | apply below_alloc | apply pw_below_drewN | apply below_drew1) | exact HB.out)) hb); clear HB; have HO283 := n0_; have HB := n1_; clear n0_ n1_; (try clear hb); (try clear hb2); (try clear hk); (try clear hi); (try clear ho0)))
                            go_ret2
                            exact ⟨_, by first | rfl | (simp [errW_none, errW_some] <;> rfl) | (simp [*, errW_none, errW_some] <;> rfl) | (((first | rw [pw_wdiv _ _ (by omega) (by omega)] | rw [pw_wdiv' _ _ (by omega) (by omega)] | rw [Go.IntWalk.wrap64_in _ (by omega)]); repeat (first | rw [pw_wdiv _ _ (by omega) (by omega)] | rw [pw_wdiv' _ _ (by omega) (by omega)] | rw [Go.IntWalk.wrap64_in _ (by omega)])); rfl), by (with_reducible repeat (first | apply Kd.R_alloc | apply Kd.R_drewN | apply Kd.R_drew)); exact HO283.out, by repeat (first | (with_reducible first | exact HB.out | apply below_alloc | apply pw_below_drewN | apply below_drew1) | exact HB.out)⟩
                          · replace c40 := Bool.eq_false_iff.mpr c40
                            subst c40
                            have H1 : (some (([] : List (S47)), 110)) = some (r1, r2) := by rw [if_neg (show ¬ (false = true) by decide)] at H; exact H
                            clear H
                            have H := H1
                            clear H1
                            simp only [Option.some.injEq, Prod.mk.injEq] at H
                            obtain ⟨rfl, rfl⟩ := H
                            go_wp2_with (first | ((with_reducible refine gate_callee (f := 24) rfl ?_); refine goesL_ (some 92) rfl rfl Try.func24 (by kernel_rfl) rfl #[.string a0, .int .i64 (wrap64 (8 + (wrap64 (8 * x7_3))))] rfl (by (try simp only [List.map_toArray, List.map_cons, List.map_nil]); first | done | rfl | (simp only [List.length_drop, List.length_take]; rfl)) ?_; (with_reducible refine (colophonref08_U4.calls a0 (wrap64 (8 + (wrap64 (8 * x7_3)))) t279 _ A35.out).mono ?_); rintro e w' ⟨rfl, ⟨nd, rfl⟩⟩; refine ⟨_, rfl, ?_⟩) | ((with_reducible refine gate_callee (f := 25) rfl ?_); refine goesL_ (some 102) rfl rfl Try.func25 (by kernel_rfl) rfl #[.string (a0.extract (t279 : Int).toNat a0.size), .int .i64 a1] rfl (by (try simp only [List.map_toArray, List.map_cons, List.map_nil]); first | done | rfl | (simp only [List.length_drop, List.length_take]; rfl)) ?_; (with_reducible refine (colophonref11_twelve.calls k3 (a0.extract (t279 : Int).toNat a0.size) a1 t280 false _ A39.out).mono ?_); rintro e w42 ⟨v282, rfl, ho0, hb⟩; refine ⟨_, rfl, ?_⟩; have n0_ := Aside0.mk (Kd.R_lower ho0 (below_size (by repeat (first | (with_reducible first | exact HB.out | apply below_alloc | apply pw_below_drewN | apply below_drew1) | exact HB.out)))); have n1_ := Aside0.mk (below_step (by repeat (first | (with_reducible first | exact HB.out | apply below_alloc | apply pw_below_drewN | apply below_drew1) | exact HB.out)) hb); clear HB; have HO283 := n0_; have HB := n1_; clear n0_ n1_; (try clear hb); (try clear hb2); (try clear hk); (try clear hi); (try clear ho0)))
                            go_ret2
                            exact ⟨_, by first | rfl | (simp [errW_none, errW_some] <;> rfl) | (simp [*, errW_none, errW_some] <;> rfl) | (((first | rw [pw_wdiv _ _ (by omega) (by omega)] | rw [pw_wdiv' _ _ (by omega) (by omega)] | rw [Go.IntWalk.wrap64_in _ (by omega)]); repeat (first | rw [pw_wdiv _ _ (by omega) (by omega)] | rw [pw_wdiv' _ _ (by omega) (by omega)] | rw [Go.IntWalk.wrap64_in _ (by omega)])); rfl), by first | exact Kd.R_nil _ _ _ _ _ | exact Kd.N_nil _ _ _ _ _ | exact Kd.V_nil _ _ _ _ _ | exact Kd.Q_nil _ _ _ _ _ | exact Kd.S_nil _ _ _ _ _, by repeat (first | (with_reducible first | exact HB.out | apply below_alloc | apply pw_below_drewN | apply below_drew1) | exact HB.out)⟩
                        · rw [if_neg c37] at H
                          exact absurd H (by simp)
                      · rw [if_neg c36] at H
                        have c36b0 : decide (t279 ≤ (a0.size : Int)) = false := decide_eq_false c36
                        clear c36
                        simp only [Option.some.injEq, Prod.mk.injEq] at H
                        obtain ⟨rfl, rfl⟩ := H
                        go_wp2_with (first | ((with_reducible refine gate_callee (f := 24) rfl ?_); refine goesL_ (some 92) rfl rfl Try.func24 (by kernel_rfl) rfl #[.string a0, .int .i64 (wrap64 (8 + (wrap64 (8 * x7_3))))] rfl (by (try simp only [List.map_toArray, List.map_cons, List.map_nil]); first | done | rfl | (simp only [List.length_drop, List.length_take]; rfl)) ?_; (with_reducible refine (colophonref08_U4.calls a0 (wrap64 (8 + (wrap64 (8 * x7_3)))) t279 _ A35.out).mono ?_); rintro e w' ⟨rfl, ⟨nd, rfl⟩⟩; refine ⟨_, rfl, ?_⟩))
                        go_ret2
                        exact ⟨_, by first | rfl | (simp [errW_none, errW_some] <;> rfl) | (simp [*, errW_none, errW_some] <;> rfl) | (((first | rw [pw_wdiv _ _ (by omega) (by omega)] | rw [pw_wdiv' _ _ (by omega) (by omega)] | rw [Go.IntWalk.wrap64_in _ (by omega)]); repeat (first | rw [pw_wdiv _ _ (by omega) (by omega)] | rw [pw_wdiv' _ _ (by omega) (by omega)] | rw [Go.IntWalk.wrap64_in _ (by omega)])); rfl), by first | exact Kd.R_nil _ _ _ _ _ | exact Kd.N_nil _ _ _ _ _ | exact Kd.V_nil _ _ _ _ _ | exact Kd.Q_nil _ _ _ _ _ | exact Kd.S_nil _ _ _ _ _, by repeat (first | (with_reducible first | exact HB.out | apply below_alloc | apply pw_below_drewN | apply below_drew1) | exact HB.out)⟩
                    · rw [if_neg c34] at H
                      have c34b0 : decide (0 ≤ x7_3) = false := decide_eq_false c34
                      clear c34
                      by_cases c43 : x8_3 ≥ 0
                      · rw [if_pos c43] at H
                        have c43b0 : decide (0 ≤ x8_3) = true := decide_eq_true c43
                        clear c43
                        replace H := Option.bind_eq_some_iff.mp H
                        obtain ⟨t284, A440, H⟩ := H
                        replace H : (if t284 ≤ (a0.size : Int) then (if 0 ≤ t284 then ((colophonref11_four.f k3 (a0.extract (t284 : Int).toNat a0.size) a1).bind fun bt285 => (if bt285.2 = true then (some (bt285.1, 0)) else (some (([] : List (S47)), 110)))) else (none)) else (some (([] : List (S47)), 110))) = some (r1, r2) := H
                        have A44 := Aside0.mk A440
                        clear A440
                        by_cases c45 : t284 ≤ (a0.size : Int)
                        · rw [if_pos c45] at H
                          have c45b0 : decide (t284 ≤ (a0.size : Int)) = true := decide_eq_true c45
                          clear c45
                          by_cases c46 : 0 ≤ t284
                          · rw [if_pos c46] at H
                            have c46b0 := eq_true c46
                            have c46b1 : decide (0 ≤ t284) = true := decide_eq_true c46
                            clear c46
                            have c47b0 := eq_true (of_decide_eq_true (by first | (with_reducible assumption) | assumption) : t284 ≤ (a0.size : Int))
                            replace H := Option.bind_eq_some_iff.mp H
                            obtain ⟨⟨t285, t286⟩, A480, H⟩ := H
                            replace H : (if t286 = true then (some (t285, 0)) else (some (([] : List (S47)), 110))) = some (r1, r2) := H
                            have A48 := Aside0.mk A480
                            clear A480
                            by_cases c49 : t286 = true
                            · subst c49
                              have H1 : (some (t285, 0)) = some (r1, r2) := by rw [if_pos rfl] at H; exact H
                              clear H
                              have H := H1
                              clear H1
                              simp only [Option.some.injEq, Prod.mk.injEq] at H
                              obtain ⟨rfl, rfl⟩ := H
                              go_wp2_with (first | ((with_reducible refine gate_callee (f := 24) rfl ?_); refine goesL_ (some 111) rfl rfl Try.func24 (by kernel_rfl) rfl #[.string a0, .int .i64 (wrap64 (8 + (wrap64 (8 * x8_3))))] rfl (by (try simp only [List.map_toArray, List.map_cons, List.map_nil]); first | done | rfl | (simp only [List.length_drop, List.length_take]; rfl)) ?_; (with_reducible refine (colophonref08_U4.calls a0 (wrap64 (8 + (wrap64 (8 * x8_3)))) t284 _ A44.out).mono ?_); rintro e w' ⟨rfl, ⟨nd, rfl⟩⟩; refine ⟨_, rfl, ?_⟩) | ((with_reducible refine gate_callee (f := 26) rfl ?_); refine goesL_ (some 121) rfl rfl Try.func26 (by kernel_rfl) rfl #[.string (a0.extract (t284 : Int).toNat a0.size), .int .i64 a1] rfl (by (try simp only [List.map_toArray, List.map_cons, List.map_nil]); first | done | rfl | (simp only [List.length_drop, List.length_take]; rfl)) ?_; (with_reducible refine (colophonref11_four.calls k3 (a0.extract (t284 : Int).toNat a0.size) a1 t285 true _ A48.out).mono ?_); rintro e w50 ⟨v287, rfl, ho0, hb⟩; refine ⟨_, rfl, ?_⟩; have n0_ := Aside0.mk (Kd.R_lower ho0 (below_size (by repeat (first | (with_reducible first | exact HB.out | apply below_alloc | apply pw_below_drewN | apply below_drew1) | exact HB.out)))); have n1_ := Aside0.mk (below_step (by repeat (first | (with_reducible first | exact HB.out | apply below_alloc | apply pw_below_drewN | apply below_drew1) | exact HB.out)) hb); clear HB; have HO288 := n0_; have HB := n1_; clear n0_ n1_; (try clear hb); (try clear hb2); (try clear hk); (try clear hi); (try clear ho0)))
                              go_ret2
                              exact ⟨_, by first | rfl | (simp [errW_none, errW_some] <;> rfl) | (simp [*, errW_none, errW_some] <;> rfl) | (((first | rw [pw_wdiv _ _ (by omega) (by omega)] | rw [pw_wdiv' _ _ (by omega) (by omega)] | rw [Go.IntWalk.wrap64_in _ (by omega)]); repeat (first | rw [pw_wdiv _ _ (by omega) (by omega)] | rw [pw_wdiv' _ _ (by omega) (by omega)] | rw [Go.IntWalk.wrap64_in _ (by omega)])); rfl), by (with_reducible repeat (first | apply Kd.R_alloc | apply Kd.R_drewN | apply Kd.R_drew)); exact HO288.out, by repeat (first | (with_reducible first | exact HB.out | apply below_alloc | apply pw_below_drewN | apply below_drew1) | exact HB.out)⟩
                            · replace c49 := Bool.eq_false_iff.mpr c49
                              subst c49
                              have H1 : (some (([] : List (S47)), 110)) = some (r1, r2) := by rw [if_neg (show ¬ (false = true) by decide)] at H; exact H
                              clear H
                              have H := H1
                              clear H1
                              simp only [Option.some.injEq, Prod.mk.injEq] at H
                              obtain ⟨rfl, rfl⟩ := H
                              go_wp2_with (first | ((with_reducible refine gate_callee (f := 24) rfl ?_); refine goesL_ (some 111) rfl rfl Try.func24 (by kernel_rfl) rfl #[.string a0, .int .i64 (wrap64 (8 + (wrap64 (8 * x8_3))))] rfl (by (try simp only [List.map_toArray, List.map_cons, List.map_nil]); first | done | rfl | (simp only [List.length_drop, List.length_take]; rfl)) ?_; (with_reducible refine (colophonref08_U4.calls a0 (wrap64 (8 + (wrap64 (8 * x8_3)))) t284 _ A44.out).mono ?_); rintro e w' ⟨rfl, ⟨nd, rfl⟩⟩; refine ⟨_, rfl, ?_⟩) | ((with_reducible refine gate_callee (f := 26) rfl ?_); refine goesL_ (some 121) rfl rfl Try.func26 (by kernel_rfl) rfl #[.string (a0.extract (t284 : Int).toNat a0.size), .int .i64 a1] rfl (by (try simp only [List.map_toArray, List.map_cons, List.map_nil]); first | done | rfl | (simp only [List.length_drop, List.length_take]; rfl)) ?_; (with_reducible refine (colophonref11_four.calls k3 (a0.extract (t284 : Int).toNat a0.size) a1 t285 false _ A48.out).mono ?_); rintro e w51 ⟨v287, rfl, ho0, hb⟩; refine ⟨_, rfl, ?_⟩; have n0_ := Aside0.mk (Kd.R_lower ho0 (below_size (by repeat (first | (with_reducible first | exact HB.out | apply below_alloc | apply pw_below_drewN | apply below_drew1) | exact HB.out)))); have n1_ := Aside0.mk (below_step (by repeat (first | (with_reducible first | exact HB.out | apply below_alloc | apply pw_below_drewN | apply below_drew1) | exact HB.out)) hb); clear HB; have HO288 := n0_; have HB := n1_; clear n0_ n1_; (try clear hb); (try clear hb2); (try clear hk); (try clear hi); (try clear ho0)))
                              go_ret2
                              exact ⟨_, by first | rfl | (simp [errW_none, errW_some] <;> rfl) | (simp [*, errW_none, errW_some] <;> rfl) | (((first | rw [pw_wdiv _ _ (by omega) (by omega)] | rw [pw_wdiv' _ _ (by omega) (by omega)] | rw [Go.IntWalk.wrap64_in _ (by omega)]); repeat (first | rw [pw_wdiv _ _ (by omega) (by omega)] | rw [pw_wdiv' _ _ (by omega) (by omega)] | rw [Go.IntWalk.wrap64_in _ (by omega)])); rfl), by first | exact Kd.R_nil _ _ _ _ _ | exact Kd.N_nil _ _ _ _ _ | exact Kd.V_nil _ _ _ _ _ | exact Kd.Q_nil _ _ _ _ _ | exact Kd.S_nil _ _ _ _ _, by repeat (first | (with_reducible first | exact HB.out | apply below_alloc | apply pw_below_drewN | apply below_drew1) | exact HB.out)⟩
                          · rw [if_neg c46] at H
                            exact absurd H (by simp)
                        · rw [if_neg c45] at H
                          have c45b0 : decide (t284 ≤ (a0.size : Int)) = false := decide_eq_false c45
                          clear c45
                          simp only [Option.some.injEq, Prod.mk.injEq] at H
                          obtain ⟨rfl, rfl⟩ := H
                          go_wp2_with (first | ((with_reducible refine gate_callee (f := 24) rfl ?_); refine goesL_ (some 111) rfl rfl Try.func24 (by kernel_rfl) rfl #[.string a0, .int .i64 (wrap64 (8 + (wrap64 (8 * x8_3))))] rfl (by (try simp only [List.map_toArray, List.map_cons, List.map_nil]); first | done | rfl | (simp only [List.length_drop, List.length_take]; rfl)) ?_; (with_reducible refine (colophonref08_U4.calls a0 (wrap64 (8 + (wrap64 (8 * x8_3)))) t284 _ A44.out).mono ?_); rintro e w' ⟨rfl, ⟨nd, rfl⟩⟩; refine ⟨_, rfl, ?_⟩))
                          go_ret2
                          exact ⟨_, by first | rfl | (simp [errW_none, errW_some] <;> rfl) | (simp [*, errW_none, errW_some] <;> rfl) | (((first | rw [pw_wdiv _ _ (by omega) (by omega)] | rw [pw_wdiv' _ _ (by omega) (by omega)] | rw [Go.IntWalk.wrap64_in _ (by omega)]); repeat (first | rw [pw_wdiv _ _ (by omega) (by omega)] | rw [pw_wdiv' _ _ (by omega) (by omega)] | rw [Go.IntWalk.wrap64_in _ (by omega)])); rfl), by first | exact Kd.R_nil _ _ _ _ _ | exact Kd.N_nil _ _ _ _ _ | exact Kd.V_nil _ _ _ _ _ | exact Kd.Q_nil _ _ _ _ _ | exact Kd.S_nil _ _ _ _ _, by repeat (first | (with_reducible first | exact HB.out | apply below_alloc | apply pw_below_drewN | apply below_drew1) | exact HB.out)⟩
                      · rw [if_neg c43] at H
                        have c43b0 : decide (0 ≤ x8_3) = false := decide_eq_false c43
                        clear c43
                        simp only [Option.some.injEq, Prod.mk.injEq] at H
                        obtain ⟨rfl, rfl⟩ := H
                        go_wp2
                        go_ret2
                        exact ⟨_, by first | rfl | (simp [errW_none, errW_some] <;> rfl) | (simp [*, errW_none, errW_some] <;> rfl) | (((first | rw [pw_wdiv _ _ (by omega) (by omega)] | rw [pw_wdiv' _ _ (by omega) (by omega)] | rw [Go.IntWalk.wrap64_in _ (by omega)]); repeat (first | rw [pw_wdiv _ _ (by omega) (by omega)] | rw [pw_wdiv' _ _ (by omega) (by omega)] | rw [Go.IntWalk.wrap64_in _ (by omega)])); rfl), by first | exact Kd.R_nil _ _ _ _ _ | exact Kd.N_nil _ _ _ _ _ | exact Kd.V_nil _ _ _ _ _ | exact Kd.Q_nil _ _ _ _ _ | exact Kd.S_nil _ _ _ _ _, by repeat (first | (with_reducible first | exact HB.out | apply below_alloc | apply pw_below_drewN | apply below_drew1) | exact HB.out)⟩

end Go.Proofs.Ytldcgkkbmnahiaa.Px
